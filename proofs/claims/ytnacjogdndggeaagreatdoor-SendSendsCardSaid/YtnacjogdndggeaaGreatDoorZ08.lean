/- octet.List, and reveilleref01's Text and List: what each comes to. Layer 6 (rec): what is sealed. Layer 2 (crc): the tables, a sum, sealing and opening. Layer 2 (crc): New, four tables. -/
import Derived.Test.YtnacjogdndggeaaGreatDoorZ07
import Derived.Test.YtnacjogdndggeaaGreatDoorZ06
import Derived.Deep.CutBlock
import Derived.Test.YtnacjogdndggeaaGreatDoorZ03
import Derived.WalkSmall
import Derived.BigQuiet
import Derived.Deep.QuietTactic
import Derived.Deep.RegionWith
import Derived.StillTailTactics
section
namespace Go.Proofs.YtnacjogdndggeaaGreatDoor
open Go.Shelf Go.RowKit

set_option maxRecDepth 100000 in
set_option maxHeartbeats 1000000 in
theorem List_many (A : Option Addr) (c : Nat) (n : Nat) (w : World) (h : 255 < n) :
    Calls Tryz.prog 269 #[.slice A n c] w fun e w' => e = .returned (.tuple #[.string ⟨#[]⟩, .int .i64 6]) ∧ w = w' := by
  have h' : (255 : Int) < (n : Int) := by omega
  go_enter Tryz.func269, Tryz.ntmps269
  go_wp2
  go_ret2
  exact ⟨rfl, rfl⟩

set_option maxRecDepth 100000 in
set_option maxHeartbeats 1000000 in
theorem List_good (A : Option Addr) (c : Nat) (l : List (List UInt8)) (w : World) (hr : RSa w A l) (hl : l.length ≤ 255) (hs : shortAll l = true) :
    Calls Tryz.prog 269 #[.slice A l.length c] w fun e w' => e = .returned (.tuple #[.string (S (listB l)), .int .i64 0]) ∧ Below w.heap.size w w' := by
  have q : decide ((255 : Int) < (l.length : Int)) = false := decide_eq_false (by omega)
  have hlen := textsB_len l 65535 (by have := short_take hs l.length; rwa [List.take_length] at this)
  have hlen2 : (textsB l).length ≤ 65537000 := by omega
  clear hlen
  have HS := Lib.hid hs
  clear hs
  go_enter Tryz.func269, Tryz.ntmps269
  go_wp2_with (fail)
  refine (Text_good A c l w hr (by omega) HS.out).mono ?_
  rintro e w1 ⟨rfl, hb1⟩
  go_wp2_with (fail)
  refine (put_any 1 l.length w1 (by omega) (by omega) (by omega)).mono ?_
  rintro e w2 ⟨rfl, hb2⟩
  rw [Int.toNat_natCast]
  go_wp2
  go_ret2
  exact ⟨ret_se rfl rfl, hb1.trans (hb2.mono hb1.size)⟩

set_option maxRecDepth 100000 in
set_option maxHeartbeats 1000000 in
theorem List_bad (A : Option Addr) (c : Nat) (l : List (List UInt8)) (w : World) (hr : RSa w A l) (hl : l.length ≤ 255) (hs : ¬ shortAll l = true) :
    Calls Tryz.prog 269 #[.slice A l.length c] w fun e w' => e = .returned (.tuple #[.string ⟨#[]⟩, .int .i64 6]) ∧ Below w.heap.size w w' := by
  have q : decide ((255 : Int) < (l.length : Int)) = false := decide_eq_false (by omega)
  have HS := Lib.hid hs
  clear hs
  go_enter Tryz.func269, Tryz.ntmps269
  go_wp2_with (fail)
  refine (Text_bad A c l w hr (by omega) HS.out).mono ?_
  rintro e w1 ⟨rfl, hb1⟩
  go_wp2
  go_ret2
  exact ⟨rfl, hb1⟩

end Go.Proofs.YtnacjogdndggeaaGreatDoor
end

section
namespace Go.Proofs.YtnacjogdndggeaaGreatDoor
open Go.Shelf Go.RowKit Go.Lib

theorem ri_blk3 {w : World} {b : Nat} {x y z : Int} {t : TypeId} (h : Blk w b #[.int .i64 x, .int .i64 y, .int .i64 z] t) : RI w (.slice (some ⟨b, 0, none⟩) 3 3) [x, y, z] :=
  ⟨_, 3, rfl, fun j hj => ⟨b, 0, rfl, by
    rw [h.cell]
    match j, hj with
    | 0, _ => rfl
    | 1, _ => rfl
    | 2, _ => rfl⟩⟩
theorem rsa_blk3 {w : World} {b : Nat} {x y z : List UInt8} {t : TypeId} (h : Blk w b #[.string (S x), .string (S y), .string (S z)] t) : RSa w (some ⟨b, 0, none⟩) [x, y, z] := fun j hj => ⟨b, 0, rfl, by
    rw [h.cell]
    match j, hj with
    | 0, _ => rfl
    | 1, _ => rfl
    | 2, _ => rfl⟩
theorem flat3_len (n : Nat) (x y z : Int) : (flatN n [x, y, z]).length = 3 * n := by
  simp [flatN]
  omega

/-- A record. -/
structure Rec where
  kind : Int
  queue : Int
  due : Int
  retry : Int
  ref : Int
  born : Int
  topic : List UInt8
  tag : List UInt8
  body : List UInt8
  keys : List (List UInt8)

def recV (m : Rec) (A : Option Addr) (c : Nat) : Array Value := #[.int .i64 m.kind, .int .i64 m.queue, .int .i64 m.due, .int .i64 m.retry, .int .i64 m.ref, .int .i64 m.born, .string (S m.topic), .string (S m.tag), .string (S m.body), .slice A m.keys.length c]
def insideF (m : Rec) : List UInt8 := flatN 1 [m.kind, m.queue, m.retry] ++ flatN 6 [m.born, m.due, m.ref] ++ textsB [m.topic, m.tag, m.body] ++ listB m.keys

set_option maxRecDepth 100000 in
set_option maxHeartbeats 2000000 in
theorem inside_any (m : Rec) (A : Option Addr) (c : Nat) (w : World) (hr : RSa w A m.keys) (h1 : [m.kind, m.queue, m.retry].all (fits 1) = true) (h6 : [m.born, m.due, m.ref].all (fits 6) = true)
    (ht : m.topic.length ≤ 1000) (hg : m.tag.length ≤ 1000) (hb : m.body.length ≤ 1000) (hk : m.keys.length ≤ 100) (hks : AllLe m.keys 1000) :
    Calls Tryz.prog 249 #[.agg (recV m A c)] w fun e w' => e = .returned (.string (S (insideF m))) ∧ Below w.heap.size w w' := by
  obtain ⟨kind, queue, due, retry, ref, born, topic, tag, body, keys⟩ := m
  simp only [recV] at *
  have hB := Blk.new w #[.int .i64 kind, .int .i64 queue, .int .i64 due, .int .i64 retry, .int .i64 ref, .int .i64 born, .string (S topic), .string (S tag), .string (S body), .slice A keys.length c] 56
  have HW := Lib.hid ((Below.refl w.heap.size w).alloc (Nat.le_refl _) (.cells #[.int .i64 kind, .int .i64 queue, .int .i64 due, .int .i64 retry, .int .i64 ref, .int .i64 born, .string (S topic), .string (S tag), .string (S body), .slice A keys.length c] 56))
  go_enter Tryz.func249, Tryz.ntmps249
  go_upto_region 1 with (fail)
  have hn1 := nums_good (n := 1) (zs := [kind, queue, retry]) (by omega) (by omega) h1
  have hn6 := nums_good (n := 6) (zs := [born, due, ref]) (by omega) (by omega) h6
  generalize w.alloc (.cells #[.int .i64 kind, .int .i64 queue, .int .i64 due, .int .i64 retry, .int .i64 ref, .int .i64 born, .string (S topic), .string (S tag), .string (S body), .slice A keys.length c] 56) = w1 at *
  have hr1 := hr.below (HW.out)
  have e0 := hB.cell 0
  have e1 := hB.cell 1
  have e3 := hB.cell 3
  have HB1 := Lib.hid hB
  clear hB
  go_wp2_with (fail)
  refine (Num_any 1 _ [kind, queue, retry] _ (ri_blk3 (Blk.new w1 _ 3)) (by simp)).mono ?_
  rintro e w2 ⟨rfl, hw2⟩
  rw [show numsB 1 [kind, queue, retry] = flatN 1 [kind, queue, retry] from hn1.2, show numsE 1 [kind, queue, retry] = 0 from hn1.1]
  have hB := (HB1.out.alloc (.cells #[.int .i64 kind, .int .i64 queue, .int .i64 retry] 3)).below hw2
  have hr2 := (hr1.below ((Below.refl _ _).alloc (Nat.le_refl _) (.cells #[.int .i64 kind, .int .i64 queue, .int .i64 retry] 3))).below hw2
  have W2 := Lib.hid ((HW.out.alloc HW.out.size (.cells #[.int .i64 kind, .int .i64 queue, .int .i64 retry] 3)).trans (hw2.mono (by simp; have := HW.out.size; omega)))
  clear HB1 hr1 HW hw2 e0 e1 e3 hn1
  have e5 := hB.cell 5
  have e2 := hB.cell 2
  have e4 := hB.cell 4
  have HB1 := Lib.hid hB
  clear hB
  go_wp2_with (fail)
  refine (Num_any 6 _ [born, due, ref] _ (ri_blk3 (Blk.new w2 _ 3)) (by simp)).mono ?_
  rintro e w3 ⟨rfl, hw3⟩
  rw [show numsB 6 [born, due, ref] = flatN 6 [born, due, ref] from hn6.2, show numsE 6 [born, due, ref] = 0 from hn6.1]
  have hB := (HB1.out.alloc (.cells #[.int .i64 born, .int .i64 due, .int .i64 ref] 3)).below hw3
  have hr3 := (hr2.below ((Below.refl _ _).alloc (Nat.le_refl _) (.cells #[.int .i64 born, .int .i64 due, .int .i64 ref] 3))).below hw3
  have W3 := Lib.hid ((W2.out.alloc W2.out.size (.cells #[.int .i64 born, .int .i64 due, .int .i64 ref] 3)).trans (hw3.mono (by simp; have := W2.out.size; omega)))
  clear HB1 hr2 W2 hw3 e5 e2 e4 hn6
  have e6 := hB.cell 6
  have e7 := hB.cell 7
  have e8 := hB.cell 8
  have HB1 := Lib.hid hB
  clear hB
  go_wp2_with (fail)
  refine (Text_good _ 3 [topic, tag, body] _ (rsa_blk3 (Blk.new w3 _ 9)) (by simp) (by simp [shortAll]; omega)).mono ?_
  rintro e w4 ⟨rfl, hw4⟩
  have hB := (HB1.out.alloc (.cells #[.string (S topic), .string (S tag), .string (S body)] 9)).below hw4
  have hr4 := (hr3.below ((Below.refl _ _).alloc (Nat.le_refl _) (.cells #[.string (S topic), .string (S tag), .string (S body)] 9))).below hw4
  have W4 := Lib.hid ((W3.out.alloc W3.out.size (.cells #[.string (S topic), .string (S tag), .string (S body)] 9)).trans (hw4.mono (by simp; have := W3.out.size; omega)))
  clear HB1 hr3 W3 hw4 e6 e7 e8
  have e9 := hB.cell 9
  clear hB
  go_wp2_with (fail)
  refine (List_good A c keys w4 hr4 (by omega) (by unfold shortAll; rw [List.all_eq_true]; intro s hs; have := hks s hs; simp; omega)).mono ?_
  rintro e w5 ⟨rfl, hw5⟩
  have W5 := Lib.hid (W4.out.trans (hw5.mono W4.out.size))
  have l1 := flat3_len 1 kind queue retry
  have l2 := flat3_len 6 born due ref
  have l3 := textsB_len [topic, tag, body] 1000 (by simp; omega)
  have l4 := textsB_len keys 1000 hks
  have l5 := listB_length keys
  have HI : Hid (insideF ⟨kind, queue, due, retry, ref, born, topic, tag, body, keys⟩ = flatN 1 [kind, queue, retry] ++ flatN 6 [born, due, ref] ++ textsB [topic, tag, body] ++ listB keys) := rfl
  simp only [List.length_cons, List.length_nil] at l3
  generalize flatN 1 [kind, queue, retry] = x1 at *
  generalize flatN 6 [born, due, ref] = x2 at *
  generalize textsB [topic, tag, body] = x3 at *
  have l6 : (listB keys).length ≤ 200000 := by
    have : 1002 * keys.length ≤ 1002 * 100 := Nat.mul_le_mul_left _ hk
    omega
  generalize listB keys = x4 at *
  have s1 : (S x1).size ≤ 100 := by simp; omega
  have s2 : (S x2).size ≤ 100 := by simp; omega
  have s3 : (S x3).size ≤ 10000 := by simp; omega
  have s4 : (S x4).size ≤ 200000 := by simp; omega
  have m1 : x1.length ≤ 100 := by omega
  have m2 : x2.length ≤ 100 := by omega
  have m3 : x3.length ≤ 10000 := by omega
  clear l1 l2 l3 l4 l5 W4 hw5 e9 hr4
  go_wp2
  go_ret
  exact ⟨by rw [HI.out, List.append_assoc, List.append_assoc]; rfl, W5.out⟩

end Go.Proofs.YtnacjogdndggeaaGreatDoor
end

section
namespace Go.Proofs.YtnacjogdndggeaaGreatDoor
open Go.Shelf Go.RowKit

def step1 (x : Int) : Int := if (bits BinOp.and IntKind.u32 x 1 == 1) = true then bits BinOp.xor IntKind.u32 (x / 2) 3988292384 else x / 2
def firstF (b : Int) : Nat → Int
  | 0 => b
  | k + 1 => step1 (firstF b k)

set_option maxRecDepth 100000 in
set_option maxHeartbeats 1000000 in
theorem first_any (b : Int) (w : World) :
    Calls Tryz.prog 183 #[.int .u32 b] w fun e w' => e = .returned (.int .u32 (firstF b 8)) ∧ w = w' := by
  go_enter Tryz.func183, Tryz.ntmps183
  go_wp2
  go_loop [0, 3, 4] (fun vb _ vi => ∃ (k : Nat), k ≤ 8 ∧ vi = .int .i64 k ∧ vb = .int .u32 (firstF b k)) (fun _ _ vi => 8 - (intOf vi).toNat)
  case atStart => exact ⟨0, Nat.zero_le _, rfl, rfl⟩
  case round =>
    obtain ⟨k, hk, rfl, rfl⟩ := hrel
    by_cases hlt : k < 8
    · have HS : Hid (firstF b (k + 1) = step1 (firstF b k)) := rfl
      generalize firstF b k = x at *
      cases ht : (bits BinOp.and IntKind.u32 x 1 == 1)
      · go_wp2
        exact ⟨⟨k + 1, hlt, by go_num, by rw [HS.out, step1, if_neg (by rw [ht]; simp)]⟩, by simp [intOf]; omega⟩
      · go_wp2
        exact ⟨⟨k + 1, hlt, by go_num, by rw [HS.out, step1, if_pos ht]⟩, by simp [intOf]; omega⟩
    · have hkn : k = 8 := by omega
      subst hkn
      go_wp2
      go_ret
      exact ⟨rfl, rfl⟩

theorem and255 (x : Int) : 0 ≤ bits BinOp.and IntKind.u32 x 255 ∧ bits BinOp.and IntKind.u32 x 255 < 256 := by
  have h : bits BinOp.and IntKind.u32 x 255 = IntKind.u32.wrap ((BitVec.ofInt 32 x &&& BitVec.ofInt 32 255).toNat : Int) := rfl
  rw [h, BitVec.toNat_and]
  have h2 : (BitVec.ofInt 32 255).toNat = 255 := by decide
  rw [h2]
  have h3 : (BitVec.ofInt 32 x).toNat &&& 255 ≤ 255 := Nat.and_le_right
  rw [IntKind.wrap_u32]
  omega

/-- The 1024 cells of four tables. -/
def cellsOf (C : Nat → Int) : Array Value := Array.ofFn (n := 1024) fun i => .int .u32 (C i.1)
theorem cellsOf_at (C : Nat → Int) (j : Nat) (h : j < 1024) : (cellsOf C)[j]? = some (.int .u32 (C j)) := by
  unfold cellsOf
  rw [Array.getElem?_ofFn, dif_pos h]
theorem cellsOf_congr {C D : Nat → Int} (h : ∀ j, j < 1024 → C j = D j) : cellsOf C = cellsOf D := by
  unfold cellsOf
  congr 1
  funext i
  rw [h i.1 i.2]
def upd (C : Nat → Int) (j : Nat) (v : Int) : Nat → Int := fun i => if i = j then v else C i
theorem cellsOf_set (C : Nat → Int) (j : Nat) (v : Int) : (cellsOf C).setIfInBounds j (.int .u32 v) = cellsOf (upd C j v) := by
  apply Array.ext
  · simp [cellsOf]
  · intro i h1 h2
    have hi : i < 1024 := by simpa [cellsOf] using h2
    rw [Array.getElem_setIfInBounds (by simpa [cellsOf] using h2)]
    simp only [cellsOf, Array.getElem_ofFn, upd]
    by_cases e : j = i
    · subst e; simp
    · rw [if_neg e, if_neg (fun h => e h.symm)]
theorem zeroCells_rows : Tryz.zeroCells270 = cellsOf fun _ => 0 := by kernel_rfl

def tabF (i : Nat) : Int :=
  if h : i < 256 then firstF (i : Int) 8 else bits BinOp.xor IntKind.u32 (firstF (bits BinOp.and IntKind.u32 (tabF (i - 256)) 255) 8) (tabF (i - 256) / 256)

abbrev IsTab (g : Nat) (w : World) : Prop := Blk w g (cellsOf tabF) 270


end Go.Proofs.YtnacjogdndggeaaGreatDoor
end

section
namespace Go.Proofs.YtnacjogdndggeaaGreatDoor
open Go.Shelf Go.RowKit

theorem Blk.drew {w : World} {b : Nat} {cs : Array Value} {t : TypeId} (h : Blk w b cs t) : Blk w.drew b cs t := h
theorem tab_low (k : Nat) (h : k < 256) : firstF (IntKind.u32.wrap (k : Int)) 8 = tabF k := by
  rw [tabF, dif_pos h, IntKind.wrap_u32, show (k : Int) % 4294967296 = k by omega]
theorem tab_next (m j : Nat) : tabF ((m + 1) * 256 + j) = bits BinOp.xor IntKind.u32 (firstF (bits BinOp.and IntKind.u32 (tabF (m * 256 + j)) 255) 8) (tabF (m * 256 + j) / 256) := by
  rw [tabF, dif_neg (by omega), show (m + 1) * 256 + j - 256 = m * 256 + j by omega]
theorem upd_below {C : Nat → Int} {k : Nat} (h : ∀ j, j < k → C j = tabF j) : ∀ j, j < k + 1 → upd C k (tabF k) j = tabF j := fun j hj => by
  unfold upd
  by_cases e : j = k
  · subst e; simp
  · rw [if_neg e]; exact h j (by omega)

set_option maxRecDepth 100000 in
set_option maxHeartbeats 4000000 in
theorem crcNew_any (w : World) :
    Calls Tryz.prog 118 #[] w fun e w' => e = .returned (.pointer (some ⟨w.heap.size, 0, none⟩)) ∧ IsTab w.heap.size w' ∧ Below w.heap.size w w' := by
  go_enter Tryz.func118, Tryz.ntmps118
  go_wp2
  have B0 := Lib.hid (Blk.new w Tryz.zeroCells270 270)
  have H0 := Lib.hid ((Below.refl w.heap.size w).alloc (Nat.le_refl _) (.cells Tryz.zeroCells270 270))
  generalize w.alloc (.cells Tryz.zeroCells270 270) = w1 at *
  rw [zeroCells_rows] at B0
  go_loopw [2, 8] (fun _ vi wr => ∃ (k : Nat) (C : Nat → Int), k ≤ 256 ∧ vi = .int .i64 k ∧ Hid (∀ j, j < k → C j = tabF j) ∧ Hid (Blk wr w.heap.size (cellsOf C) 270) ∧ Hid (Below w.heap.size w wr)) (fun _ vi _ => 256 - (intOf vi).toNat)
  case atStart => exact ⟨0, _, Nat.zero_le _, rfl, Lib.hid (fun j h => absurd h (Nat.not_lt_zero _)), B0, H0⟩
  case round =>
    obtain ⟨k, C, hk, rfl, HC, HB, HW⟩ := hrel
    by_cases hlt : k < 256
    · have c1 : wr.cell? ⟨w.heap.size, k, none⟩ = some (.int .u32 (C k)) := by rw [HB.out.cell, cellsOf_at _ _ (by omega)]
      have f1 := HB.out.frozen k
      go_upto_region 5 with (fail)
      go_region_with ((go_at_call 183; refine (first_any _ _).mono ?_; rintro e w' ⟨rfl, rfl⟩))
      all_goals
        have B1 := (HB.out.set k (.int .u32 (firstF (IntKind.u32.wrap (k : Int)) 8))).drew
        have W1 := Lib.hid ((HW.out.setCell (p := ⟨w.heap.size, k, none⟩) (Nat.le_refl _) (.int .u32 (firstF (IntKind.u32.wrap (k : Int)) 8))).drew)
        rw [cellsOf_set, tab_low k hlt] at B1
        rw [tab_low k hlt] at W1 ⊢
        have B2 := Lib.hid B1
        clear B1
        generalize (wr.setCell ⟨w.heap.size, k, none⟩ (.int .u32 (tabF k))).drew = w2 at *
        go_wp2
        exact ⟨⟨k + 1, _, hlt, by go_num, Lib.hid (upd_below HC.out), B2, W1⟩, by simp [intOf]; omega⟩
    · have hkn : k = 256 := by omega
      subst hkn
      have HK : Hid (∀ j, j < 256 * 1 → C j = tabF j) := HC
      clear HC
      rw [show ((256 : Nat) : Int) = 256 from rfl]
      go_wp2
      go_loopw [3] (fun vi wr => ∃ (k : Nat) (C : Nat → Int), 1 ≤ k ∧ k ≤ 4 ∧ vi = .int .i64 k ∧ Hid (∀ j, j < 256 * k → C j = tabF j) ∧ Hid (Blk wr w.heap.size (cellsOf C) 270) ∧ Hid (Below w.heap.size w wr)) (fun vi _ => 4 - (intOf vi).toNat)
      case atStart => exact ⟨1, C, Nat.le_refl _, by omega, rfl, HK, HB, HW⟩
      case round =>
        clear HB HW HK
        obtain ⟨k, C, hk1, hk, rfl, HC, HB, HW⟩ := hrel
        by_cases hlt : k < 4
        · obtain ⟨m, rfl⟩ : ∃ m, k = m + 1 := ⟨k - 1, by omega⟩
          rw [show ((m + 1 : Nat) : Int) = (m : Int) + 1 from rfl]
          have hd : decide ((m : Int) + 1 < 4) = true := decide_eq_true (by omega)
          go_wp2
          go_loopw [25] (fun vj wr => ∃ (j : Nat) (C : Nat → Int), j ≤ 256 ∧ vj = .int .i64 j ∧ Hid (∀ i, i < 256 * (m + 1) + j → C i = tabF i) ∧ Hid (Blk wr w.heap.size (cellsOf C) 270) ∧ Hid (Below w.heap.size w wr)) (fun vj _ => 256 - (intOf vj).toNat)
          case atStart => exact ⟨0, C, Nat.zero_le _, rfl, HC, HB, HW⟩
          case round =>
            clear HB HW HC
            obtain ⟨j, C, hj, rfl, HC, HB, HW⟩ := hrel
            by_cases hlt2 : j < 256
            · have c1 : wr.cell? ⟨w.heap.size, m * 256 + j, none⟩ = some (.int .u32 (tabF (m * 256 + j))) := by rw [HB.out.cell, cellsOf_at _ _ (by omega), HC.out _ (by omega)]
              have HT := Lib.hid (tab_next m j)
              generalize tabF (m * 256 + j) = v at *
              obtain ⟨b0, b1⟩ := and255 v
              have c2 : wr.cell? ⟨w.heap.size, (bits BinOp.and IntKind.u32 v 255).toNat, none⟩ = some (.int .u32 (firstF (bits BinOp.and IntKind.u32 v 255) 8)) := by
                rw [HB.out.cell, cellsOf_at _ _ (by omega), HC.out _ (by omega), tabF, dif_pos (by omega), Int.toNat_of_nonneg b0]
              have c3 : wr.cell? ⟨w.heap.size, (m + 1) * 256 + j, none⟩ = some (.int .u32 (C ((m + 1) * 256 + j))) := by rw [HB.out.cell, cellsOf_at _ _ (by omega)]
              have f3 := HB.out.frozen ((m + 1) * 256 + j)
              go_upto_region 14 with (fail)
              go_region_with (fail)
              all_goals
                have B1 := (HB.out.set ((m + 1) * 256 + j) (.int .u32 (bits BinOp.xor IntKind.u32 (firstF (bits BinOp.and IntKind.u32 v 255) 8) (v / 256)))).drew
                have W1 := Lib.hid ((HW.out.setCell (p := ⟨w.heap.size, (m + 1) * 256 + j, none⟩) (Nat.le_refl _) (.int .u32 (bits BinOp.xor IntKind.u32 (firstF (bits BinOp.and IntKind.u32 v 255) 8) (v / 256)))).drew)
                rw [cellsOf_set] at B1
                have B2 := Lib.hid B1
                clear B1
                generalize (wr.setCell ⟨w.heap.size, (m + 1) * 256 + j, none⟩ (.int .u32 (bits BinOp.xor IntKind.u32 (firstF (bits BinOp.and IntKind.u32 v 255) 8) (v / 256)))).drew = w2 at *
                have C2 : Hid (∀ i, i < 256 * (m + 1) + (j + 1) → upd C ((m + 1) * 256 + j) (bits BinOp.xor IntKind.u32 (firstF (bits BinOp.and IntKind.u32 v 255) 8) (v / 256)) i = tabF i) := Lib.hid fun i hi => by
                  unfold upd
                  by_cases e : i = (m + 1) * 256 + j
                  · subst e; rw [if_pos rfl, HT.out]
                  · rw [if_neg e]; exact HC.out i (by omega)
                clear c1 c2 c3 f3 b0 b1
                go_wp2
                exact ⟨⟨j + 1, _, hlt2, by go_num, C2, B2, W1⟩, by simp [intOf]; omega⟩
            · have hj2 : j = 256 := by omega
              subst hj2
              go_wp2
              exact ⟨⟨m + 2, C, by omega, by omega, by go_num, Lib.hid (fun i hi => HC.out i (by omega)), HB, HW⟩, by simp [intOf]; omega⟩
        · have hkn : k = 4 := by omega
          subst hkn
          have B1 : Hid (IsTab w.heap.size wr) := by
            have := HB.out
            rw [cellsOf_congr (D := tabF) (fun j hj => HC.out j (by omega))] at this
            exact Lib.hid this
          go_wp2
          go_ret
          exact ⟨rfl, B1.out, HW.out⟩

end Go.Proofs.YtnacjogdndggeaaGreatDoor
end
