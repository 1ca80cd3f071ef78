/- reveillelaw07.EntryUnlike: the walk. -/
import Derived.Test.YtdiebameocbahaaOcD
import Derived.Deep.CutBlock
namespace Go.Proofs.Ytdiebameocbahaa
open Go.Shelf Go.RowKit

theorem bcell {B : Nat} {W w1 : World} (hb : Below B W w1) : (∀ b o, b < B → w1.cell? ⟨b, o, none⟩ = W.cell? ⟨b, o, none⟩) ∧ (∀ b o, b < B → w1.frozen? ⟨b, o, none⟩ = W.frozen? ⟨b, o, none⟩) :=
  ⟨fun b o h => hb.cell (p := ⟨b, o, none⟩) h, fun b o h => hb.frozen (p := ⟨b, o, none⟩) h⟩

/-- Are two entries of four numbers one? -/
def eq4 (a b c d e f g h : Int) : Bool := decide (a = e ∧ b = f ∧ c = g ∧ d = h)
set_option maxRecDepth 100000 in
theorem eqPlace (a b c d e f g h : Int) (w : World) : (binOp .eql 23 (.agg #[.int .i64 a, .int .i64 b, .int .i64 c, .int .i64 d]) (.agg #[.int .i64 e, .int .i64 f, .int .i64 g, .int .i64 h])).run Try.prog w = .ok (.bool (eq4 a b c d e f g h)) w := by
  go_simp
  unfold eq4
  by_cases h1 : a = e <;> by_cases h2 : b = f <;> by_cases h3 : c = g <;> by_cases h4 : d = h <;> simp [h1, h2, h3, h4]
set_option maxRecDepth 100000 in
theorem eqMark (a b c d e f g h : Int) (w : World) : (binOp .eql 26 (.agg #[.int .i64 a, .int .i64 b, .int .i64 c, .int .i64 d]) (.agg #[.int .i64 e, .int .i64 f, .int .i64 g, .int .i64 h])).run Try.prog w = .ok (.bool (eq4 a b c d e f g h)) w := by
  go_simp
  unfold eq4
  by_cases h1 : a = e <;> by_cases h2 : b = f <;> by_cases h3 : c = g <;> by_cases h4 : d = h <;> simp [h1, h2, h3, h4]

theorem nat_mod {x : Int} {n : Nat} (h : fits n x = true) : ((num (be n x.toNat) : Nat) : Int) = x := by
  obtain ⟨h0, h1⟩ := fits_iff.1 h
  have h3 : (((256 : Nat) ^ n : Nat) : Int) = (256 : Int) ^ n := by simp
  rw [num_be, Nat.mod_eq_of_lt (by omega)]
  omega

/-- Numbers that fit come back from their bytes. -/
theorem wFlat_inj : ∀ (ns : List Nat) (xs ys : List Int), xs.length = ns.length → ys.length = ns.length → wFit (ns.zip xs) = true → wFit (ns.zip ys) = true → wFlat (ns.zip xs) = wFlat (ns.zip ys) → xs = ys
  | [], [], [], _, _, _, _, _ => rfl
  | n :: ns, x :: xs, y :: ys, h1, h2, h3, h4, h5 => by
    simp only [wFit, List.zip_cons_cons, List.all_cons, Bool.and_eq_true] at h3 h4
    simp only [wFlat, List.zip_cons_cons, List.flatMap_cons] at h5
    obtain ⟨h6, h7⟩ := List.append_inj h5 (by simp)
    have e1 : x = y := by rw [← nat_mod h3.1, ← nat_mod h4.1, h6]
    have e2 := wFlat_inj ns xs ys (by simpa using h1) (by simpa using h2) h3.2 h4.2 h7
    rw [e1, e2]

theorem bytes_eq (ns : List Nat) (a b c d e f g h : Int) (hn : ns.length = 4) (h1 : wFit (ns.zip [a, b, c, d]) = true) (h2 : wFit (ns.zip [e, f, g, h]) = true) :
    ((S (wBytes (ns.zip [a, b, c, d]))).toList == (S (wBytes (ns.zip [e, f, g, h]))).toList) = eq4 a b c d e f g h := by
  have e0 : ((S (wBytes (ns.zip [a, b, c, d]))).toList == (S (wBytes (ns.zip [e, f, g, h]))).toList) = decide (wFlat (ns.zip [a, b, c, d]) = wFlat (ns.zip [e, f, g, h])) := by
    rw [Lib.toList_data, Lib.toList_data, S_data, S_data]
    unfold wBytes
    rw [if_pos h1, if_pos h2, Bool.eq_iff_iff, beq_iff_eq, decide_eq_true_iff]
  rw [e0]
  unfold eq4
  rw [decide_eq_decide]
  constructor
  · intro h5
    have := wFlat_inj ns _ _ (by simp [hn]) (by simp [hn]) h1 h2 h5
    simpa using this
  · rintro ⟨rfl, rfl, rfl, rfl⟩
    rfl

theorem cell_new1 (w : World) (o : Obj) (cs : Array Value) (e : TypeId) (fr : Nat × Nat) (j : Nat) : ((w.alloc (.cells cs e fr)).alloc o).cell? ⟨w.heap.size, j, none⟩ = cs[j]? := by
  have h := heap_alloc_new w (.cells cs e fr)
  unfold World.cell?
  rw [Below.heap_alloc _ _ _ (by simp), h]
  rfl

theorem keep2 {n : Nat} {w1 w2 : World} {X Y : Array Value} (k1 : ∀ j, w1.cell? ⟨n, j, none⟩ = X[j]?) (k2 : ∀ j, w1.cell? ⟨n + 1, j, none⟩ = Y[j]?) (s : n + 2 ≤ w1.heap.size) (hb : Below w1.heap.size w1 w2) :
    (∀ j, w2.cell? ⟨n, j, none⟩ = X[j]?) ∧ (∀ j, w2.cell? ⟨n + 1, j, none⟩ = Y[j]?) ∧ n + 2 ≤ w2.heap.size :=
  ⟨fun j => (hb.cell (p := ⟨_, j, none⟩) (by simp; omega)).trans (k1 j), fun j => (hb.cell (p := ⟨_, j, none⟩) (by simp; omega)).trans (k2 j), Nat.le_trans s hb.size⟩

set_option maxRecDepth 100000 in
set_option maxHeartbeats 1000000 in
theorem unlike_any (a0 a1 a2 a3 b0 b1 b2 b3 c0 c1 c2 c3 d0 d1 d2 d3 : Int) (w : World) :
    Calls Try.prog 3 #[.agg #[.int .i64 a0, .int .i64 a1, .int .i64 a2, .int .i64 a3, .int .i64 b0, .int .i64 b1, .int .i64 b2, .int .i64 b3], .agg #[.int .i64 c0, .int .i64 c1, .int .i64 c2, .int .i64 c3, .int .i64 d0, .int .i64 d1, .int .i64 d2, .int .i64 d3]] w fun e w' => e = .returned (.bool true) ∧ Below w.heap.size w w' := by
  go_enter Try.func3, Try.ntmps3
  go_wp2_with (fail)
  refine (awake7 _).mono ?_
  rintro e w1 ⟨rfl, hb1⟩
  have kA1 : ∀ j, w1.cell? ⟨w.heap.size, j, none⟩ = (#[Value.int .i64 a0, .int .i64 a1, .int .i64 a2, .int .i64 a3, .int .i64 b0, .int .i64 b1, .int .i64 b2, .int .i64 b3] : Array Value)[j]? := fun j => (hb1.cell (p := ⟨_, j, none⟩) (by simp; omega)).trans (cell_new1 w _ _ _ _ j)
  have kB1 : ∀ j, w1.cell? ⟨w.heap.size + 1, j, none⟩ = (#[Value.int .i64 c0, .int .i64 c1, .int .i64 c2, .int .i64 c3, .int .i64 d0, .int .i64 d1, .int .i64 d2, .int .i64 d3] : Array Value)[j]? := fun j => (hb1.cell (p := ⟨_, j, none⟩) (by simp)).trans (cell_new2 w _ _ _ _ j)
  have HB1 := Lib.hid ((((Below.refl w.heap.size w).alloc (Nat.le_refl _) _).alloc (by simp) _).trans (hb1.mono (by simp; omega)))
  have s1 : w.heap.size + 2 ≤ w1.heap.size := by have := hb1.size; simpa using this
  clear hb1
  go_wp2_with (fail)
  refine (placePut_any a0 a1 a2 a3 _).mono ?_
  rintro e w2 ⟨rfl, hb2⟩
  obtain ⟨kA2, kB2, s2⟩ := keep2 kA1 kB1 s1 hb2
  have HB2 := Lib.hid (HB1.out.trans (hb2.mono (by omega)))
  clear kA1 kB1 s1 hb2 HB1
  go_wp2_with (fail)
  refine (placePut_any b0 b1 b2 b3 _).mono ?_
  rintro e w3 ⟨rfl, hb3⟩
  obtain ⟨kA3, kB3, s3⟩ := keep2 kA2 kB2 s2 hb3
  have HB3 := Lib.hid (HB2.out.trans (hb3.mono (by omega)))
  clear kA2 kB2 s2 hb3 HB2
  go_wp2_with (fail)
  refine (markPut_any c0 c1 c2 c3 _).mono ?_
  rintro e w4 ⟨rfl, hb4⟩
  obtain ⟨kA4, kB4, s4⟩ := keep2 kA3 kB3 s3 hb4
  have HB4 := Lib.hid (HB3.out.trans (hb4.mono (by omega)))
  clear kA3 kB3 s3 hb4 HB3
  go_wp2_with (fail)
  refine (markPut_any d0 d1 d2 d3 _).mono ?_
  rintro e w5 ⟨rfl, hb5⟩
  obtain ⟨kA5, kB5, s5⟩ := keep2 kA4 kB4 s4 hb5
  have HB5 := Lib.hid (HB4.out.trans (hb5.mono (by omega)))
  clear kA4 kB4 s4 hb5 HB4
  go_upto_region 7 with (fail)
  have E1 := fun h1 h2 => bytes_eq [6, 2, 5, 7] a0 a1 a2 a3 b0 b1 b2 b3 rfl h1 h2
  have E2 := fun h1 h2 => bytes_eq [6, 6, 6, 2] c0 c1 c2 c3 d0 d1 d2 d3 rfl h1 h2
  have q1 := eqPlace a0 a1 a2 a3 b0 b1 b2 b3
  have q2 := eqMark c0 c1 c2 c3 d0 d1 d2 d3
  change wFit (placeW a0 a1 a2 a3) = true → wFit (placeW b0 b1 b2 b3) = true → ((S (wBytes (placeW a0 a1 a2 a3))).toList == (S (wBytes (placeW b0 b1 b2 b3))).toList) = _ at E1
  change wFit (markW c0 c1 c2 c3) = true → wFit (markW d0 d1 d2 d3) = true → ((S (wBytes (markW c0 c1 c2 c3))).toList == (S (wBytes (markW d0 d1 d2 d3))).toList) = _ at E2
  generalize eq4 a0 a1 a2 a3 b0 b1 b2 b3 = z1 at *
  generalize eq4 c0 c1 c2 c3 d0 d1 d2 d3 = z2 at *
  generalize wFit (placeW a0 a1 a2 a3) = f0 at *
  generalize wFit (placeW b0 b1 b2 b3) = f1 at *
  generalize wFit (markW c0 c1 c2 c3) = g0 at *
  generalize wFit (markW d0 d1 d2 d3) = g1 at *
  generalize wBytes (placeW a0 a1 a2 a3) = l0 at *
  generalize wBytes (placeW b0 b1 b2 b3) = l1 at *
  generalize wBytes (markW c0 c1 c2 c3) = m0 at *
  generalize wBytes (markW d0 d1 d2 d3) = m1 at *
  cases f0 <;> cases f1 <;> cases g0 <;> cases g1 <;> simp only [forall_const, reduceCtorEq, false_implies, true_implies] at E1 E2
  all_goals
    go_wp2
    go_ret
    exact ⟨rfl, HB5.out⟩

end Go.Proofs.Ytdiebameocbahaa
