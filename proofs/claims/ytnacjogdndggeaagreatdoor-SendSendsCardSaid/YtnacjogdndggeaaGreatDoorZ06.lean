/- Layer 3 (name): plain names, groups, topics, tags. Layer 3 (name): keys, and all of many. Layer 6 (rec): numbers, noughts, fillers. Layer 6 (rec): fillers. -/
import Derived.Test.YtnacjogdndggeaaGreatDoorZ03
import Derived.Test.YtnacjogdndggeaaGreatDoorZ01
import Derived.Test.YtnacjogdndggeaaGreatDoorZ05
import Derived.Shelf.GgClosure.Gives
import Derived.Deep.CutBlock
import Derived.WalkSmall
import Derived.Shelf.GgClosure.StringsIndexFuncTop
import Derived.Laws.RangeString
import Derived.Laws.RangeAny
import Derived.Shelf.SlicesE.IndexFunc
section
namespace Go.Proofs.YtnacjogdndggeaaGreatDoor
open Go.Shelf Go.RowKit Go.Lib

def signP (r : Nat) : Bool := (decide (97 ≤ r) && decide (r ≤ 122)) || (decide (48 ≤ r) && decide (r ≤ 57)) || decide (r = 45)

set_option maxRecDepth 100000 in
set_option maxHeartbeats 1000000 in
theorem sign_any (r : Nat) (w : World) :
    Calls Tryz.prog 138 #[.int .i32 (r : Int)] w fun e w' => e = .returned (.bool (signP r)) ∧ w = w' := by
  by_cases h1 : 97 ≤ r <;> by_cases h2 : r ≤ 122 <;> by_cases h3 : 48 ≤ r <;> by_cases h4 : r ≤ 57 <;> by_cases h5 : r = 45
  all_goals
    first
    | (exfalso; omega)
    | (have z1 : ((97 : Int) ≤ (r : Int)) ↔ 97 ≤ r := by omega
       have z2 : ((r : Int) ≤ 122) ↔ r ≤ 122 := by omega
       have z3 : ((48 : Int) ≤ (r : Int)) ↔ 48 ≤ r := by omega
       have z4 : ((r : Int) ≤ 57) ↔ r ≤ 57 := by omega
       have z5 : ((r : Int) == 45) = decide (r = 45) := by
         rw [Bool.eq_iff_iff]; simp; omega
       have HS : Hid (signP r = ((decide (97 ≤ r) && decide (r ≤ 122)) || (decide (48 ≤ r) && decide (r ≤ 57)) || decide (r = 45))) := rfl
       go_enter Tryz.func138, Tryz.ntmps138
       go_wp2
       all_goals first
         | (exfalso; omega)
         | (go_ret; exact ⟨ret_bool (by rw [HS.out]; simp [h1, h2, h3, h4, h5]), rfl⟩))

theorem plain1_any (r : Nat) (w : World) :
    Calls Tryz.prog 137 #[.int .i32 (r : Int)] w fun e w' => e = .returned (.bool (!signP r)) ∧ w = w' := by
  go_enter Tryz.func137, Tryz.ntmps137
  go_wp2_with (fail)
  refine (sign_any r w).mono ?_
  rintro e w' ⟨rfl, rfl⟩
  go_wp2
  go_ret
  exact ⟨rfl, rfl⟩

theorem plain1_at (w : World) : PredAt Tryz.prog 137 #[] encR (fun r => !signP r) w := fun W r _ => by
  unfold FnGives
  refine (plain1_any r W).mono ?_
  rintro e w' ⟨rfl, rfl⟩
  exact ⟨rfl, 0, rfl⟩

theorem sign_high {r : Nat} (h : 128 ≤ r) : signP r = false := by
  unfold signP
  simp
  omega

/-- All bytes are plain signs. -/
def signs (l : List UInt8) : Bool := l.all fun b => signP b.toNat

theorem idx_signs (l : List UInt8) : ∀ (f pos : Nat), l.length ≤ f + pos → (idxFuncFrom (fun r => !signP r) true (S l) f pos < 0 ↔ signs (l.drop pos) = true)
  | 0, pos, h => by
    rw [List.drop_eq_nil_of_le (by omega)]
    simp [idxFuncFrom, signs]
  | f + 1, pos, h => by
    unfold idxFuncFrom
    by_cases hp : pos < (S l).size
    · have hp' : pos < l.length := by simpa using hp
      have hg : (S l)[pos]'hp = l[pos] := rfl
      have hd : l.drop pos = l[pos] :: l.drop (pos + 1) := List.drop_eq_getElem_cons hp'
      rw [if_pos hp]
      by_cases ha : ((S l)[pos]'hp).toNat < 128
      · have hdec := decode_ascii (S l) pos hp ha
        rw [hdec]
        rw [hg] at ha ⊢
        simp only
        have ih := idx_signs l f (pos + 1) (by omega)
        rw [hd]
        have hc : signs (l[pos] :: l.drop (pos + 1)) = (signP l[pos].toNat && signs (l.drop (pos + 1))) := rfl
        rw [hc]
        cases hs : signP l[pos].toNat
        · simp
        · simpa using ih
      · have hdec := decode_high (S l) pos hp (by omega)
        rw [if_pos (by simp [sign_high hdec.1])]
        have hc : signs (l.drop pos) = (signP l[pos].toNat && signs (l.drop (pos + 1))) := by rw [hd]; rfl
        rw [hc, sign_high (by rw [hg] at ha; omega)]
        simp
    · have hp' : l.length ≤ pos := by simpa using hp
      rw [if_neg hp, List.drop_eq_nil_of_le hp']
      simp [signs]

/-- A plain name. -/
def plainF (l : List UInt8) : Bool := decide (l ≠ []) && decide (l.length ≤ 16) && signs l

set_option maxRecDepth 100000 in
set_option maxHeartbeats 1000000 in
theorem Plain_any (l : List UInt8) (w : World) :
    Calls Tryz.prog 80 #[.string (S l)] w fun e w' => e = .returned (.bool (plainF l)) ∧ Below w.heap.size w w' := by
  have eg := enters_of Tryz.func137 (by kernel_rfl) rfl
  have hI := Tryz.strings_IndexFunc 137 #[] eg (fun r => !signP r) (S l) w (plain1_at w)
  have hx : idxFunc (fun r => !signP r) true (S l) < 0 ↔ signs l = true := by
    have := idx_signs l (S l).size 0 (by simp)
    rwa [List.drop_zero] at this
  generalize idxFunc (fun r => !signP r) true (S l) = x at *
  have HX := Lib.hid hx
  clear hx eg
  have HP : Hid (plainF l = (decide (l ≠ []) && decide (l.length ≤ 16) && signs l)) := rfl
  by_cases h0 : l = []
  · subst h0
    go_enter Tryz.func80, Tryz.ntmps80
    go_wp2
    go_ret
    exact ⟨rfl, Below.refl _ _⟩
  · by_cases h1 : l.length ≤ 16
    · have hb : decide ((l.length : Int) ≤ 16) = true := decide_eq_true (by omega)
      go_enter Tryz.func80, Tryz.ntmps80
      go_wp2_with (fail)
      refine hI.mono ?_
      rintro e w' ⟨rfl, hw⟩
      go_wp2
      go_ret
      refine ⟨ret_bool ?_, hw⟩
      rw [HP.out, decide_eq_true h1]
      have := HX.out
      cases l with
      | nil => exact absurd rfl h0
      | cons a r =>
        rw [Bool.eq_iff_iff]
        simp [this]
    · have hb : decide ((l.length : Int) ≤ 16) = false := decide_eq_false (by omega)
      go_enter Tryz.func80, Tryz.ntmps80
      go_wp2
      go_ret
      refine ⟨ret_bool ?_, Below.refl _ _⟩
      rw [HP.out]
      simp [h1]

def groupF (l : List UInt8) : Bool := plainF l && decide (l.length ≤ 8)

set_option maxRecDepth 100000 in
set_option maxHeartbeats 1000000 in
theorem Group_any (l : List UInt8) (w : World) :
    Calls Tryz.prog 78 #[.string (S l)] w fun e w' => e = .returned (.bool (groupF l)) ∧ Below w.heap.size w w' := by
  have HP : Hid (groupF l = (plainF l && decide (l.length ≤ 8))) := rfl
  have hc := Plain_any l w
  generalize plainF l = p at *
  go_enter Tryz.func78, Tryz.ntmps78
  go_wp2_with (fail)
  refine hc.mono ?_
  rintro e w' ⟨rfl, hw⟩
  clear hc
  cases p
  · go_wp2
    go_ret
    exact ⟨ret_bool (by rw [HP.out]; rfl), hw⟩
  · go_wp2
    go_ret
    refine ⟨ret_bool ?_, hw⟩
    rw [HP.out, Bool.eq_iff_iff]
    simp
    omega

set_option maxRecDepth 100000 in
set_option maxHeartbeats 1000000 in
theorem Tag_any (l : List UInt8) (w : World) :
    Calls Tryz.prog 36 #[.string (S l)] w fun e w' => e = .returned (.bool (decide (l = []) || plainF l)) ∧ Below w.heap.size w w' := by
  by_cases h0 : l = []
  · subst h0
    go_enter Tryz.func36, Tryz.ntmps36
    go_wp2
    go_ret
    exact ⟨rfl, Below.refl _ _⟩
  · have hc := Plain_any l w
    go_enter Tryz.func36, Tryz.ntmps36
    go_wp2_with (fail)
    refine hc.mono ?_
    rintro e w' ⟨rfl, hw⟩
    clear hc
    go_wp2
    go_ret
    exact ⟨ret_bool (by simp [h0]), hw⟩

def retryL : List UInt8 := [37, 114, 101, 116, 114, 121, 37]
def deadL : List UInt8 := [37, 100, 101, 97, 100, 37]
/-- The group of a topic of the broker's own; is it one? -/
def ofF (l : List UInt8) : List UInt8 × Bool :=
  if (Lib.hasPrefix l retryL && groupF (Lib.trimPrefix l retryL)) = true then (Lib.trimPrefix l retryL, true)
  else if (Lib.hasPrefix l deadL && groupF (Lib.trimPrefix l deadL)) = true then (Lib.trimPrefix l deadL, true) else ([], false)

theorem cut_any (l p : List UInt8) (w : World) :
    Calls Tryz.prog 77 #[.string (S l), .string (S p)] w fun e w' => e = .returned (.tuple #[.string (S (Lib.trimPrefix l p)), .bool (Lib.hasPrefix l p)]) ∧ w' = w := by
  have h := Tryz.strings_CutPrefix (S l) (S p) w
  rw [S_data, S_data] at h
  exact h

set_option maxRecDepth 100000 in
set_option maxHeartbeats 2000000 in
theorem Of_any (l : List UInt8) (w : World) :
    Calls Tryz.prog 34 #[.string (S l)] w fun e w' => e = .returned (.tuple #[.string (S (ofF l).1), .bool (ofF l).2]) ∧ Below w.heap.size w w' := by
  have HB := Lib.hid ((Below.refl w.heap.size w).alloc (Nat.le_refl _) (.cells #[.string (S retryL), .string (S deadL)] 9))
  have hk := Blk.new w #[.string (S retryL), .string (S deadL)] 9
  have HK := Lib.hid hk
  have c0 := hk.cell 0
  have c1 := hk.cell 1
  clear hk
  have HO : Hid (ofF l = if (Lib.hasPrefix l retryL && groupF (Lib.trimPrefix l retryL)) = true then (Lib.trimPrefix l retryL, true) else if (Lib.hasPrefix l deadL && groupF (Lib.trimPrefix l deadL)) = true then (Lib.trimPrefix l deadL, true) else ([], false)) := rfl
  have k1 := cut_any l retryL (w.alloc (.cells #[.string (S retryL), .string (S deadL)] 9))
  have k2 := fun W => cut_any l deadL W
  have g1 := Group_any (Lib.trimPrefix l retryL) (w.alloc (.cells #[.string (S retryL), .string (S deadL)] 9))
  have g2 := fun W => Group_any (Lib.trimPrefix l deadL) W
  generalize Lib.trimPrefix l retryL = t1 at *
  generalize Lib.trimPrefix l deadL = t2 at *
  generalize Lib.hasPrefix l retryL = b1 at *
  generalize Lib.hasPrefix l deadL = b2 at *
  generalize groupF t1 = p1 at *
  generalize groupF t2 = p2 at *
  go_enter Tryz.func34, Tryz.ntmps34
  go_wp2
  rw [show (⟨#[37, 114, 101, 116, 114, 121, 37]⟩ : ByteArray) = S retryL from rfl, show (⟨#[37, 100, 101, 97, 100, 37]⟩ : ByteArray) = S deadL from rfl]
  generalize w.alloc (.cells #[.string (S retryL), .string (S deadL)] 9) = w1 at *
  refine wp_loop_rounds 3 ?_
  rw [rounds_succ]
  go_wp2_with (fail)
  refine k1.mono ?_
  rintro e w' ⟨rfl, rfl⟩
  clear k1
  have r2 : ∀ W, Hid (Below w.heap.size w W) → Hid (Blk W w.heap.size #[.string (S retryL), .string (S deadL)] 9) → True := fun _ _ _ => trivial
  clear r2
  cases b1
  · go_wp2
    rw [rounds_succ]
    go_wp2_with (fail)
    refine (k2 _).mono ?_
    rintro e w' ⟨rfl, rfl⟩
    cases b2
    · go_wp2
      rw [rounds_succ]
      go_wp2
      go_ret2
      exact ⟨by rw [HO.out]; rfl, HB.out⟩
    · go_wp2_with (fail)
      refine (g2 _).mono ?_
      rintro e w' ⟨rfl, hw⟩
      cases p2
      · go_wp2
        rw [rounds_succ]
        go_wp2
        go_ret2
        exact ⟨by rw [HO.out]; rfl, HB.out.trans (hw.mono HB.out.size)⟩
      · go_wp2
        go_ret2
        exact ⟨by rw [HO.out]; rfl, HB.out.trans (hw.mono HB.out.size)⟩
  · go_wp2_with (fail)
    refine g1.mono ?_
    rintro e w2 ⟨rfl, hw⟩
    cases p1
    · have HB2 := Lib.hid (HB.out.trans (hw.mono HB.out.size))
      have HK2 := HK.out.below hw
      have d1 := HK2.cell 1
      clear HK2 HK c0 c1 hw g1
      go_wp2
      rw [rounds_succ]
      go_wp2_with (fail)
      refine (k2 _).mono ?_
      rintro e w' ⟨rfl, rfl⟩
      cases b2
      · go_wp2
        rw [rounds_succ]
        go_wp2
        go_ret2
        exact ⟨by rw [HO.out]; rfl, HB2.out⟩
      · go_wp2_with (fail)
        refine (g2 _).mono ?_
        rintro e w' ⟨rfl, hw⟩
        cases p2
        · go_wp2
          rw [rounds_succ]
          go_wp2
          go_ret2
          exact ⟨by rw [HO.out]; rfl, HB2.out.trans (hw.mono HB2.out.size)⟩
        · go_wp2
          go_ret2
          exact ⟨by rw [HO.out]; rfl, HB2.out.trans (hw.mono HB2.out.size)⟩
    · go_wp2
      go_ret2
      exact ⟨by rw [HO.out]; rfl, HB.out.trans (hw.mono HB.out.size)⟩

/-- A topic. -/
def topicF (l : List UInt8) : Bool := (ofF l).2 || plainF l

set_option maxRecDepth 100000 in
set_option maxHeartbeats 1000000 in
theorem Topic_any (l : List UInt8) (w : World) :
    Calls Tryz.prog 164 #[.string (S l)] w fun e w' => e = .returned (.bool (topicF l)) ∧ Below w.heap.size w w' := by
  have HT : Hid (topicF l = ((ofF l).2 || plainF l)) := rfl
  have hO := Of_any l w
  have hP := fun W => Plain_any l W
  generalize ofF l = x at *
  generalize plainF l = y at *
  obtain ⟨x1, x2⟩ := x
  go_enter Tryz.func164, Tryz.ntmps164
  go_wp2_with (fail)
  refine hO.mono ?_
  rintro e w1 ⟨rfl, hw⟩
  clear hO
  cases x2
  · go_wp2_with (fail)
    refine (hP _).mono ?_
    rintro e w2 ⟨rfl, hw2⟩
    go_wp2
    go_ret
    exact ⟨ret_bool (by rw [HT.out]; rfl), hw.trans (hw2.mono hw.size)⟩
  · go_wp2
    go_ret
    exact ⟨ret_bool (by rw [HT.out]; rfl), hw⟩

end Go.Proofs.YtnacjogdndggeaaGreatDoor
end

section
namespace Go.Proofs.YtnacjogdndggeaaGreatDoor
open Go.Shelf Go.RowKit Go.Lib

/-- Signs that stand in keys. -/
def keySigns (l : List UInt8) : Bool := l.all fun b => !(decide (b.toNat < 33) || decide (126 < b.toNat))
def keyF (l : List UInt8) : Bool := decide (l ≠ []) && decide (l.length ≤ 16) && keySigns l

set_option maxRecDepth 100000 in
set_option maxHeartbeats 1000000 in
theorem Key_any (l : List UInt8) (w : World) :
    Calls Tryz.prog 38 #[.string (S l)] w fun e w' => e = .returned (.bool (keyF l)) ∧ w = w' := by
  have HP : Hid (keyF l = (decide (l ≠ []) && decide (l.length ≤ 16) && keySigns l)) := rfl
  by_cases h0 : l = []
  · subst h0
    go_enter Tryz.func38, Tryz.ntmps38
    go_wp2
    go_ret
    exact ⟨rfl, rfl⟩
  · by_cases h1 : l.length ≤ 16
    · have hb : decide ((16 : Int) < l.length) = false := decide_eq_false (by omega)
      have hn : l.isEmpty = false := by cases l with | nil => exact absurd rfl h0 | cons _ _ => rfl
      have HK : Hid (keyF l = keySigns l) := Lib.hid (by rw [HP.out]; simp [h0, h1])
      clear HP
      have H0 := Lib.hid h0
      clear h0
      go_enter Tryz.func38, Tryz.ntmps38
      go_wp2
      go_loop [13] (fun vi => ∃ k : Nat, k ≤ l.length ∧ vi = .int .i64 k ∧ Hid (keySigns l = keySigns (l.drop k))) (fun vi => l.length - (intOf vi).toNat)
      case atStart => exact ⟨0, Nat.zero_le _, rfl, Lib.hid (by rw [List.drop_zero])⟩
      case round =>
        obtain ⟨k, hk, rfl, HS⟩ := hrel
        by_cases hlt : k < l.length
        · have hg : (S l)[k]'(by simpa using hlt) = l[k] := rfl
          have hd : Hid (keySigns (l.drop k) = (!(decide (l[k].toNat < 33) || decide (126 < l[k].toNat)) && keySigns (l.drop (k + 1)))) := Lib.hid (by rw [List.drop_eq_getElem_cons hlt]; rfl)
          by_cases c1 : l[k].toNat < 33
          · go_wp2
            go_ret
            exact ⟨ret_bool (by rw [HK.out, HS.out, hd.out]; simp [c1]), rfl⟩
          · by_cases c2 : 126 < l[k].toNat
            · go_wp2
              go_ret
              exact ⟨ret_bool (by rw [HK.out, HS.out, hd.out]; simp [c2]), rfl⟩
            · go_wp2
              exact ⟨⟨k + 1, hlt, by go_num, Lib.hid (by rw [HS.out, hd.out]; simp [c1, c2])⟩, by simp [intOf]; omega⟩
        · have hkn : k = l.length := by omega
          subst hkn
          go_wp2
          go_ret
          exact ⟨ret_bool (by rw [HK.out, HS.out, List.drop_length]; rfl), rfl⟩
    · have hb : decide ((16 : Int) < l.length) = true := decide_eq_true (by omega)
      go_enter Tryz.func38, Tryz.ntmps38
      go_wp2
      go_ret
      exact ⟨ret_bool (by rw [HP.out]; simp [h1]), rfl⟩

theorem fn_nil (w : World) : Sem.run Tryz.prog (binOp BinOp.eql 82 (.func (.func 38) #[] #[]) .nilFunc) w = .ok (.bool false) w := by
  have h : ∀ d : Nat, (Op.equalIn (d + 1) 82 (.func (.func 38) #[] #[]) .nilFunc).run Tryz.prog w = .ok false w := fun d => by
    simp [Op.equalIn, run_underlying Tryz.underlying82]
  have h2 : (Op.equal 82 (.func (.func 38) #[] #[]) .nilFunc).run Tryz.prog w = .ok false w := h _
  simp [binOp, go_sem, h2, Result.andThen]

def keysF (ts : List (List UInt8)) : Bool := ts.all keyF

set_option maxRecDepth 100000 in
set_option maxHeartbeats 1000000 in
theorem AllKey_any (A : Option Addr) (c : Nat) (ts : List (List UInt8)) (w : World) (hr : RSa w A ts) (hl : ts.length ≤ 100000) :
    Calls Tryz.prog 37 #[.func (.func 38) #[] #[], .slice A ts.length c] w fun e w' => e = .returned (.bool (keysF ts)) ∧ w = w' := by
  go_enter Tryz.func37, Tryz.ntmps37
  go_wp2
  go_loop [9] (fun vi => ∃ k : Nat, k ≤ ts.length ∧ vi = .int .i64 k ∧ Hid (keysF ts = keysF (ts.drop k))) (fun vi => ts.length - (intOf vi).toNat)
  case atStart => exact ⟨0, Nat.zero_le _, rfl, Lib.hid (by rw [List.drop_zero])⟩
  case round =>
    obtain ⟨k, hk, rfl, HS⟩ := hrel
    by_cases hlt : k < ts.length
    · obtain ⟨b, o, rfl, hc⟩ := hr k hlt
      have hg : ts.getD k [] = ts[k] := by simp [List.getD_eq_getElem?_getD, hlt]
      rw [hg] at hc
      have hd : Hid (keysF (ts.drop k) = (keyF ts[k] && keysF (ts.drop (k + 1)))) := Lib.hid (by rw [List.drop_eq_getElem_cons hlt]; rfl)
      have hK := Key_any ts[k] w
      generalize keyF ts[k] = p at *
      generalize ts[k] = x at *
      clear hr hg
      have hfn := fn_nil w
      go_wp2_with (fail)
      refine hK.mono ?_
      rintro e w' ⟨rfl, rfl⟩
      clear hK
      cases p
      · go_wp2
        go_ret
        exact ⟨ret_bool (by rw [HS.out, hd.out]; rfl), rfl⟩
      · go_wp2
        exact ⟨⟨k + 1, hlt, by go_num, Lib.hid (by rw [HS.out, hd.out]; rfl)⟩, by simp [intOf]; omega⟩
    · have hkn : k = ts.length := by omega
      subst hkn
      go_wp2
      go_ret
      exact ⟨ret_bool (by rw [HS.out, List.drop_length]; rfl), rfl⟩

end Go.Proofs.YtnacjogdndggeaaGreatDoor
end

section
namespace Go.Proofs.YtnacjogdndggeaaGreatDoor
open Go.Shelf Go.RowKit Go.Lib

def badNum (n : Int) : Bool := decide (n < 0) || decide (1099511627776 < n)

theorem nums1_any (n : Int) (w : World) :
    Calls Tryz.prog 237 #[.int .i64 n] w fun e w' => e = .returned (.bool (badNum n)) ∧ w = w' := by
  have HN : Hid (badNum n = (decide (n < 0) || decide (1099511627776 < n))) := rfl
  by_cases h1 : n < 0
  · go_enter Tryz.func237, Tryz.ntmps237
    go_wp2
    go_ret
    exact ⟨ret_bool (by rw [HN.out]; simp [h1]), rfl⟩
  · go_enter Tryz.func237, Tryz.ntmps237
    go_wp2
    go_ret
    exact ⟨ret_bool (by rw [HN.out]; simp; omega), rfl⟩

theorem nums1_at (w : World) : PredAt Tryz.prog 237 #[] (Value.int .i64) badNum w := fun W n _ => by
  unfold FnGives
  refine (nums1_any n W).mono ?_
  rintro e w' ⟨rfl, rfl⟩
  exact ⟨rfl, 0, rfl⟩

set_option maxRecDepth 100000 in
set_option maxHeartbeats 1000000 in
theorem nums_any (b : Nat) (x y z : Int) (w : World) (h : Blk w b #[.int .i64 x, .int .i64 y, .int .i64 z] 3) :
    Calls Tryz.prog 195 #[.slice (some ⟨b, 0, none⟩) 3 3] w fun e w' => e = .returned (.bool (!(badNum x || badNum y || badNum z))) ∧ ∃ n, w' = w.drewN n := by
  have eg := enters_of Tryz.func237 (by kernel_rfl) rfl
  have hc := Tryz.slices_ContainsFunc (Value.int .i64) badNum 237 #[] eg b 0 3 3 [x, y, z] w (nums1_at w) (by simp) (by omega) (fun j hj => by
    rw [h.cell]
    match j, hj with
    | 0, _ => rfl
    | 1, _ => rfl
    | 2, _ => rfl)
  have ha : ([x, y, z].take 3).any badNum = (badNum x || badNum y || badNum z) := by simp [Bool.or_assoc]
  rw [ha] at hc
  generalize (badNum x || badNum y || badNum z) = r at *
  go_enter Tryz.func195, Tryz.ntmps195
  go_wp2_with (fail)
  refine hc.mono ?_
  rintro e w' ⟨rfl, n, rfl⟩
  go_wp2
  go_ret
  exact ⟨rfl, n, rfl⟩

theorem repeat_zero (n : Nat) : Lib.repeatL [0] n = List.replicate n (0 : UInt8) := by
  induction n with
  | zero => rfl
  | succ n ih => rw [List.replicate_succ, ← ih]; rfl

set_option maxRecDepth 100000 in
set_option maxHeartbeats 1000000 in
theorem noughts_any (n : Nat) (w : World) (hn : n ≤ 100000) :
    Calls Tryz.prog 73 #[.int .i64 n] w fun e w' => e = .returned (.string (S (List.replicate n 0))) ∧ Below w.heap.size w w' := by
  have hc := Tryz.strings_Repeat (S [0]) n w (by omega) (by simp; omega)
  rw [S_data, repeat_zero] at hc
  go_enter Tryz.func73, Tryz.ntmps73
  go_wp2_with (fail)
  refine Calls.mono (show Calls _ _ _ _ _ from hc) ?_
  rintro e w' ⟨rfl, hw⟩
  go_wp2
  go_ret
  exact ⟨rfl, hw⟩

end Go.Proofs.YtnacjogdndggeaaGreatDoor
end

section
namespace Go.Proofs.YtnacjogdndggeaaGreatDoor
open Go.Shelf Go.RowKit Go.Lib

theorem fits2 (n : Nat) (h : n ≤ 1024) : fits 2 (n : Int) = true := by
  simp [fits]
  omega

theorem num2 (n : Nat) (h : n ≤ 1024) : numsB 2 [(n : Int)] = be 2 n ∧ numsE 2 [(n : Int)] = 0 := by
  have := nums_good (n := 2) (zs := [(n : Int)]) (by omega) (by omega) (by simp [fits2 n h])
  refine ⟨?_, this.1⟩
  have h2 := this.2
  rw [show ((2 : Nat) : Int) = 2 from rfl] at h2
  rw [h2]
  simp [flatN]

/-- A filler's bytes. -/
def fillF (n : Nat) : List UInt8 := 90 :: be 2 n ++ List.replicate (n - 3) 0

set_option maxRecDepth 100000 in
set_option maxHeartbeats 1000000 in
theorem Fill_good (n : Nat) (w : World) (h3 : 3 ≤ n) (h1024 : n ≤ 1024) :
    Calls Tryz.prog 204 #[.int .i64 n] w fun e w' => e = .returned (.tuple #[.string (S (fillF n)), .bool true]) ∧ Below w.heap.size w w' := by
  have i1 : ¬ (n : Int) < 3 := by omega
  have i2 : ¬ (1024 : Int) < n := by omega
  have HB := Lib.hid ((Below.refl w.heap.size w).alloc (Nat.le_refl _) (.cells #[.int .i64 n] 3))
  have hN := Num_any 2 (.slice (some ⟨w.heap.size, 0, none⟩) 1 1) [(n : Int)] (w.alloc (.cells #[.int .i64 n] 3)) (ri_one w n) (by simp)
  rw [(num2 n h1024).1, (num2 n h1024).2] at hN
  have hl : (be 2 n).length = 2 := be_length 2 n
  have HF : Hid (fillF n = 90 :: be 2 n ++ List.replicate (n - 3) 0) := rfl
  generalize be 2 n = l at *
  obtain ⟨m, rfl⟩ : ∃ m, n = m + 3 := ⟨n - 3, by omega⟩
  go_enter Tryz.func204, Tryz.ntmps204
  go_wp2_with (fail)
  refine hN.mono ?_
  rintro e w1 ⟨rfl, hw⟩
  have HB1 := Lib.hid (HB.out.trans (hw.mono HB.out.size))
  clear HB hw hN
  have s1 : (S l).size ≤ 2 := by simp [hl]
  go_wp2_with (fail)
  refine (noughts_any m w1 (by omega)).mono ?_
  rintro e w2 ⟨rfl, hw⟩
  have s2 : (S (List.replicate m (0 : UInt8))).size ≤ 1024 := by simp; omega
  go_wp2
  go_ret2
  refine ⟨?_, HB1.out.trans (hw.mono HB1.out.size)⟩
  have hs : (⟨#[90]⟩ : ByteArray) ++ S l ++ S (List.replicate m 0) = S (fillF (m + 3)) := by
    rw [HF.out]
    show S [90] ++ S l ++ S (List.replicate m 0) = _
    rw [S_app, S_app]
    rfl
  rw [← hs]
  rfl

set_option maxRecDepth 100000 in
set_option maxHeartbeats 1000000 in
theorem Fill_bad (n : Int) (w : World) (h : n < 3 ∨ 1024 < n) :
    Calls Tryz.prog 204 #[.int .i64 n] w fun e w' => e = .returned (.tuple #[.string (S []), .bool false]) ∧ w = w' := by
  by_cases h1 : n < 3
  · go_enter Tryz.func204, Tryz.ntmps204
    go_wp2
    go_ret2
    exact ⟨rfl, rfl⟩
  · have h2 : 1024 < n := by omega
    go_enter Tryz.func204, Tryz.ntmps204
    go_wp2
    go_ret2
    exact ⟨rfl, rfl⟩

end Go.Proofs.YtnacjogdndggeaaGreatDoor
end
