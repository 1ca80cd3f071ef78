/- Layer 7: entry.put, the three Puts: what each comes to. -/
import Derived.Test.YtdiebameocbahaaOcC
namespace Go.Proofs.Ytdiebameocbahaa
open Go.Shelf Go.RowKit

/-- Does each number fit in its bytes? -/
def wFit (ws : List (Nat × Int)) : Bool := ws.all fun p => fits p.1 p.2
/-- Numbers' bytes, each in so many. -/
def wFlat (ws : List (Nat × Int)) : List UInt8 := ws.flatMap fun p => be p.1 p.2.toNat
def wBytes (ws : List (Nat × Int)) : List UInt8 := if wFit ws = true then wFlat ws else []

theorem num1_good {n : Nat} {x : Int} (h1 : 1 ≤ n) (h7 : n ≤ 7) (h : fits n x = true) : numsE n [x] = 0 ∧ numsB n [x] = be n x.toNat := by
  have := nums_good (n := n) (zs := [x]) h1 h7 (by simpa using h)
  simpa [flatN] using this
theorem num1_bad {n : Nat} {x : Int} (h1 : 1 ≤ n) (h7 : n ≤ 7) (h : ¬ fits n x = true) : numsE n [x] = 2 ∧ numsB n [x] = [] :=
  nums_bad (n := n) (zs := [x]) (k := 0) h1 h7 (by simp) (by simpa using h)

theorem take_w (ws : List (Nat × Int)) (k : Nat) (h : k < ws.length) : ws.take (k + 1) = ws.take k ++ [ws.getD k (0, 0)] := by
  rw [List.take_succ_eq_append_getElem h, List.getD_eq_getElem?_getD, List.getElem?_eq_getElem h]
  rfl

theorem wfit_step {l l' : List (Nat × Int)} {n : Nat} {z : Int} (h : wFit l = true) (ht : l' = l ++ [(n, z)]) (hf : fits n z = true) : wFit l' = true ∧ S (wFlat l') = S (wFlat l ++ be n z.toNat) := by
  subst ht
  unfold wFit at h
  simp [wFit, wFlat, h, hf]

theorem wflat_step {l l' : List (Nat × Int)} {n k : Nat} {z : Int} (ht : l' = l ++ [(n, z)]) (hl : (wFlat l).length ≤ 7 * k) (h7 : n ≤ 7) : (wFlat l').length ≤ 7 * (k + 1) := by
  subst ht
  unfold wFlat at *
  simp at *
  omega

theorem wfit_fails {ws : List (Nat × Int)} {n k : Nat} {z : Int} (ht : ws.take (k + 1) = ws.take k ++ [(n, z)]) (hf : ¬ fits n z = true) : wFit ws = false := by
  rw [← List.take_append_drop (k + 1) ws, ht]
  simp [wFit, hf]

theorem ret_sb {a b : ByteArray} {x y : Bool} (h : a = b) (h' : x = y) : Ending.returned (.tuple #[.string a, .bool x]) = .returned (.tuple #[.string b, .bool y]) := by rw [h, h']

set_option maxRecDepth 100000 in
set_option maxHeartbeats 400000 in
theorem eput_any (b : Nat) (c : Nat) (ws : List (Nat × Int)) (w : World) (hl : ws.length ≤ 4) (hw : ∀ k, k < ws.length → 1 ≤ (ws.getD k (0, 0)).1 ∧ (ws.getD k (0, 0)).1 ≤ 7)
    (hr : ∀ j, j < ws.length → w.cell? ⟨b, j * 2, none⟩ = some (.int .i64 ((ws.getD j (0, 0)).1 : Int)) ∧ w.cell? ⟨b, j * 2 + 1, none⟩ = some (.int .i64 (ws.getD j (0, 0)).2)) :
    Calls Try.prog 41 #[.slice (some ⟨b, 0, none⟩) ws.length c] w fun e w' => e = .returned (.tuple #[.string (S (wBytes ws)), .bool (wFit ws)]) ∧ Below w.heap.size w w' := by
  have hR := Lib.hid hr
  have hW := Lib.hid hw
  clear hr hw
  have HB := Lib.hid (Below.refl w.heap.size w)
  go_enter Try.func41, Try.ntmps41
  go_wp2
  go_loopw [4, 11] (fun vs vi wr => ∃ k : Nat, k ≤ ws.length ∧ vs = .string (S (wFlat (ws.take k))) ∧ vi = .int .i64 k ∧ Hid (Below w.heap.size w wr) ∧ Hid (wFit (ws.take k) = true) ∧ (wFlat (ws.take k)).length ≤ 7 * k) (fun _ vi _ => ws.length - (intOf vi).toNat)
  case atStart => exact ⟨0, Nat.zero_le _, rfl, rfl, HB, rfl, by simp [wFlat]⟩
  case round =>
    obtain ⟨k, hk, rfl, rfl, HB, HF, hL⟩ := hrel
    by_cases hlt : k < ws.length
    · have hc := below_cell HB.out (hR.out k hlt).1 (cell_lt (hR.out k hlt).1)
      have hc2 := below_cell HB.out (hR.out k hlt).2 (cell_lt (hR.out k hlt).2)
      have hw := hW.out k hlt
      have ht := take_w ws k hlt
      generalize ws.getD k (0, 0) = p at *
      obtain ⟨n, z⟩ := p
      simp only at hc hc2 hw
      obtain ⟨w1, w7⟩ := hw
      have Ht := Lib.hid ht
      clear ht
      have HL := Lib.hid (wflat_step Ht.out hL w7)
      by_cases hf : fits n z = true
      · have Hg := Lib.hid (num1_good w1 w7 hf)
        have Hs := Lib.hid (wfit_step HF.out Ht.out hf)
        go_wp2_with (fail)
        refine (Num_any n _ [z] _ (by have := ri_one (wr.alloc (.cells #[.int .i64 n, .int .i64 z] 80)) z; simpa using this) (by simp)).mono ?_
        rintro e w2 ⟨rfl, hb2⟩
        rw [Hg.out.1, Hg.out.2]
        have HB2 := Lib.hid (((HB.out.alloc HB.out.size _).alloc (by have := HB.out.size; simp; omega) _).trans (hb2.mono (by have := HB.out.size; simp; omega)))
        clear hb2
        go_wp2
        exact ⟨⟨k + 1, hlt, by rw [Hs.out.2], by go_num, HB2, Hs.out.1, HL.out⟩, by simp [intOf]; omega⟩
      · have Hg := Lib.hid (num1_bad w1 w7 hf)
        have Hs := Lib.hid (wfit_fails Ht.out hf)
        go_wp2_with (fail)
        refine (Num_any n _ [z] _ (by have := ri_one (wr.alloc (.cells #[.int .i64 n, .int .i64 z] 80)) z; simpa using this) (by simp)).mono ?_
        rintro e w2 ⟨rfl, hb2⟩
        rw [Hg.out.1, Hg.out.2]
        have HB2 := Lib.hid (((HB.out.alloc HB.out.size _).alloc (by have := HB.out.size; simp; omega) _).trans (hb2.mono (by have := HB.out.size; simp; omega)))
        clear hb2
        go_wp2
        go_ret2
        exact ⟨ret_sb (by unfold wBytes; rw [if_neg (by rw [Hs.out]; simp)]; rfl) Hs.out.symm, HB2.out⟩
    · have hkn : k = ws.length := by omega
      subst hkn
      have Hf := Lib.hid (show wFit ws = true by have := HF.out; rwa [List.take_length] at this)
      go_wp2
      go_ret2
      exact ⟨ret_sb (by rw [List.take_length]; unfold wBytes; rw [if_pos Hf.out]) Hf.out.symm, HB.out⟩

def placeW (a b c d : Int) : List (Nat × Int) := [(6, a), (2, b), (5, c), (7, d)]
def linkW (a b c d : Int) : List (Nat × Int) := [(5, a), (6, b), (6, c), (3, d)]
def markW (a b c d : Int) : List (Nat × Int) := [(6, a), (6, b), (6, c), (2, d)]

theorem cell_new2 (w : World) (o : Obj) (cs : Array Value) (e : TypeId) (fr : Nat × Nat) (j : Nat) : ((w.alloc o).alloc (.cells cs e fr)).cell? ⟨w.heap.size + 1, j, none⟩ = cs[j]? := by
  have h := heap_alloc_new (w.alloc o) (.cells cs e fr)
  rw [show (w.alloc o).heap.size = w.heap.size + 1 by simp] at h
  unfold World.cell?
  rw [h]
  rfl

theorem lit_n (ws : List (Nat × Int)) (h : ∀ p, p ∈ ws → 1 ≤ p.1 ∧ p.1 ≤ 7) : ∀ k, k < ws.length → 1 ≤ (ws.getD k (0, 0)).1 ∧ (ws.getD k (0, 0)).1 ≤ 7 := by
  intro k hk
  refine h _ ?_
  rw [List.getD_eq_getElem?_getD, List.getElem?_eq_getElem hk]
  exact List.getElem_mem hk

set_option maxRecDepth 100000 in
set_option maxHeartbeats 400000 in
theorem placePut_any (a b c d : Int) (w : World) :
    Calls Try.prog 13 #[.agg #[.int .i64 a, .int .i64 b, .int .i64 c, .int .i64 d]] w fun e w' => e = .returned (.tuple #[.string (S (wBytes (placeW a b c d))), .bool (wFit (placeW a b c d))]) ∧ Below w.heap.size w w' := by
  go_enter Try.func13, Try.ntmps13
  go_wp2_with (fail)
  refine (eput_any (w.heap.size + 1) 4 (placeW a b c d) _ (by simp [placeW]) (lit_n _ (by simp [placeW])) ?_).mono ?_
  · intro j hj
    refine ⟨(cell_new2 w _ _ _ _ _).trans ?_, (cell_new2 w _ _ _ _ _).trans ?_⟩
    all_goals
      have hj4 : j < 4 := hj
      match j, hj4 with
      | 0, _ => rfl
      | 1, _ => rfl
      | 2, _ => rfl
      | 3, _ => rfl
  · rintro e w2 ⟨rfl, hb2⟩
    have HB := Lib.hid ((((Below.refl w.heap.size w).alloc (Nat.le_refl _) _).alloc (by simp) _).trans (hb2.mono (by simp; omega)))
    clear hb2
    go_wp2
    go_ret2
    exact ⟨rfl, HB.out⟩

set_option maxRecDepth 100000 in
set_option maxHeartbeats 400000 in
theorem markPut_any (a b c d : Int) (w : World) :
    Calls Try.prog 14 #[.agg #[.int .i64 a, .int .i64 b, .int .i64 c, .int .i64 d]] w fun e w' => e = .returned (.tuple #[.string (S (wBytes (markW a b c d))), .bool (wFit (markW a b c d))]) ∧ Below w.heap.size w w' := by
  go_enter Try.func14, Try.ntmps14
  go_wp2_with (fail)
  refine (eput_any (w.heap.size + 1) 4 (markW a b c d) _ (by simp [markW]) (lit_n _ (by simp [markW])) ?_).mono ?_
  · intro j hj
    refine ⟨(cell_new2 w _ _ _ _ _).trans ?_, (cell_new2 w _ _ _ _ _).trans ?_⟩
    all_goals
      have hj4 : j < 4 := hj
      match j, hj4 with
      | 0, _ => rfl
      | 1, _ => rfl
      | 2, _ => rfl
      | 3, _ => rfl
  · rintro e w2 ⟨rfl, hb2⟩
    have HB := Lib.hid ((((Below.refl w.heap.size w).alloc (Nat.le_refl _) _).alloc (by simp) _).trans (hb2.mono (by simp; omega)))
    clear hb2
    go_wp2
    go_ret2
    exact ⟨rfl, HB.out⟩

set_option maxRecDepth 100000 in
set_option maxHeartbeats 400000 in
theorem linkPut_any (a b c d : Int) (w : World) :
    Calls Try.prog 31 #[.agg #[.int .i64 a, .int .i64 b, .int .i64 c, .int .i64 d]] w fun e w' => e = .returned (.tuple #[.string (S (wBytes (linkW a b c d))), .bool (wFit (linkW a b c d))]) ∧ Below w.heap.size w w' := by
  go_enter Try.func31, Try.ntmps31
  go_wp2_with (fail)
  refine (eput_any (w.heap.size + 1) 4 (linkW a b c d) _ (by simp [linkW]) (lit_n _ (by simp [linkW])) ?_).mono ?_
  · intro j hj
    refine ⟨(cell_new2 w _ _ _ _ _).trans ?_, (cell_new2 w _ _ _ _ _).trans ?_⟩
    all_goals
      have hj4 : j < 4 := hj
      match j, hj4 with
      | 0, _ => rfl
      | 1, _ => rfl
      | 2, _ => rfl
      | 3, _ => rfl
  · rintro e w2 ⟨rfl, hb2⟩
    have HB := Lib.hid ((((Below.refl w.heap.size w).alloc (Nat.le_refl _) _).alloc (by simp) _).trans (hb2.mono (by simp; omega)))
    clear hb2
    go_wp2
    go_ret2
    exact ⟨rfl, HB.out⟩

def zeros20 : List UInt8 := List.replicate 20 0
theorem zero_place : wBytes (placeW 0 0 0 0) = zeros20 ∧ wFit (placeW 0 0 0 0) = true := by constructor <;> decide
theorem ownsRow_cast {w : World} {base : Nat} {e : TypeId} {size n : Nat} {v : Value} {xs ys : List Value} (h : w.ownsRow base e size v n xs) (he : xs = ys) : w.ownsRow base e size v n ys := he ▸ h

set_option maxRecDepth 100000 in
set_option maxHeartbeats 400000 in
theorem awake7 (w : World) :
    Calls Try.prog 12 #[] w fun e w' => e = .returned (.bool true) ∧ Below w.heap.size w w' := by
  obtain ⟨i0, hi, hz0, hz1, hz2⟩ := info_parts info5
  go_enter Try.func12, Try.ntmps12
  go_wp2_with (fail)
  refine (placePut_any 0 0 0 0 _).mono ?_
  rintro e w2 ⟨he, hb2⟩
  rw [zero_place.1, zero_place.2] at he
  subst he
  go_wp2_with ((refine wpList_make_full _ rfl _ _ 67 rfl w.heap.size 5 i0 (.int .u8 0) 1 Try.underlying67 hi hz0 hz1 .i64 .i64 20 20 20 rfl rfl rfl rfl (by rw [hz2]; omega) (by unfold maxLen; omega) hb2.size ?_; intro w1 hown hg))
  have hcv := own_str (l := zeros20) (ownsRow_cast hown (by rw [show (Value.int IntKind.u8 0).cells = #[Value.int IntKind.u8 0] from rfl, toList_madeCells_one]; rfl))
  have HB := Lib.hid (hb2.grown hg hb2.size (by simp))
  clear hown hg hb2
  go_wp2
  rw [hcv]
  go_wp2
  go_ret
  exact ⟨rfl, HB.out⟩

end Go.Proofs.Ytdiebameocbahaa
