/- Layer 7: entry.get, and the three Gets: what each comes to. -/
import Derived.Test.YtdiebameocbahaaOcG
import Derived.Test.YtdiebameocbahaaOcD
namespace Go.Proofs.Ytdiebameocbahaa
open Go.Shelf Go.RowKit

/-- A block of cells, whole and not frozen. -/
def Blk (w : World) (b : Nat) (cs : Array Value) (t : TypeId) : Prop := w.heap[b]? = some (.cells cs t (0, 0))
section
variable {w w' : World} {b g : Nat} {cs : Array Value} {t : TypeId}
theorem Blk.cell (h : Blk w b cs t) (j : Nat) : w.cell? ⟨b, j, none⟩ = cs[j]? := by
  unfold World.cell?
  rw [h]
  rfl
theorem Blk.frozen (h : Blk w b cs t) (j : Nat) : w.frozen? ⟨b, j, none⟩ = false := Lib.frozen_of_heap h j
theorem Blk.lt (h : Blk w b cs t) : b < w.heap.size := by
  rcases Nat.lt_or_ge b w.heap.size with h' | h'
  · exact h'
  · unfold Blk at h; simp [Array.getElem?_eq_none h'] at h
theorem Blk.only (h : Blk w b cs t) (ho : Only g w w') (hne : b ≠ g) : Blk w' b cs t := by
  have := h.lt
  unfold Blk at *
  rw [ho.block b this (by simpa using hne)]
  exact h
theorem Blk.below (h : Blk w b cs t) (hb : Below w.heap.size w w') : Blk w' b cs t := by
  have := h.lt
  unfold Blk at *
  rw [hb.block b this]
  exact h
theorem Blk.set_ne (h : Blk w b cs t) {p : Addr} (hne : b ≠ p.block) (v : Value) : Blk (w.setCell p v) b cs t := by
  unfold Blk at *
  rw [heap_setCell_other w p b v hne]
  exact h
theorem Blk.set (h : Blk w b cs t) (i : Nat) (v : Value) : Blk (w.setCell ⟨b, i, none⟩ v) b (cs.setIfInBounds i v) t := heap_setCell_same w b i cs t v h
theorem Blk.new (w : World) (cs : Array Value) (t : TypeId) : Blk (w.alloc (.cells cs t)) w.heap.size cs t := heap_alloc_new w _
theorem Blk.alloc (h : Blk w b cs t) (o : Obj) : Blk (w.alloc o) b cs t := by
  have := h.lt
  unfold Blk at *
  rw [Below.heap_alloc _ _ _ this]
  exact h
theorem IsR.set_ne {g : Nat} {s : List UInt8} {e : Int} (h : IsR g s e w) {p : Addr} (hne : g ≠ p.block) (v : Value) : IsR g s e (w.setCell p v) := by
  unfold IsR at *
  rw [heap_setCell_other w p g v hne]
  exact h
end

/-- Four numbers read one behind the other: what is left, the error, and the numbers. -/
structure G4 where
  x0 : Int
  x1 : Int
  x2 : Int
  x3 : Int
  s : List UInt8
  e : Int
def get4F (s : List UInt8) (n0 n1 n2 n3 : Int) : G4 :=
  let r0 := numF s 0 n0
  let r1 := numF r0.2.1 r0.2.2 n1
  let r2 := numF r1.2.1 r1.2.2 n2
  let r3 := numF r2.2.1 r2.2.2 n3
  ⟨r0.1, r1.1, r2.1, r3.1, r3.2.1, r3.2.2⟩

def Get4Post (s : List UInt8) (p0 p1 p2 p3 : Nat) (n0 n1 n2 n3 : Int) (w : World) (e : Ending) (w' : World) : Prop :=
  e = .returned (.bool (decide (endF (get4F s n0 n1 n2 n3).s (get4F s n0 n1 n2 n3).e = 0))) ∧
  Blk w' p0 #[.int .i64 n0, .int .i64 (get4F s n0 n1 n2 n3).x0] 80 ∧ Blk w' p1 #[.int .i64 n1, .int .i64 (get4F s n0 n1 n2 n3).x1] 80 ∧
  Blk w' p2 #[.int .i64 n2, .int .i64 (get4F s n0 n1 n2 n3).x2] 80 ∧ Blk w' p3 #[.int .i64 n3, .int .i64 (get4F s n0 n1 n2 n3).x3] 80 ∧
  Below p0 w w'

set_option maxRecDepth 100000 in
set_option maxHeartbeats 2000000 in
theorem get4_any (s : List UInt8) (b p0 p1 p2 p3 : Nat) (n0 n1 n2 n3 : Int) (w : World)
    (hP : Blk w b #[.pointer (some ⟨p0, 0, none⟩), .pointer (some ⟨p1, 0, none⟩), .pointer (some ⟨p2, 0, none⟩), .pointer (some ⟨p3, 0, none⟩)] 94 ∧ Blk w p0 #[.int .i64 n0, .int .i64 0] 80 ∧ Blk w p1 #[.int .i64 n1, .int .i64 0] 80 ∧ Blk w p2 #[.int .i64 n2, .int .i64 0] 80 ∧ Blk w p3 #[.int .i64 n3, .int .i64 0] 80)
    (l01 : p0 < p1) (l12 : p1 < p2) (l23 : p2 < p3) (l3b : p3 < b) :
    Calls Try.prog 47 #[.string (S s), .slice (some ⟨b, 0, none⟩) 4 4] w (Get4Post s p0 p1 p2 p3 n0 n1 n2 n3 w) := by
  have HG : Hid (get4F s n0 n1 n2 n3 = ⟨(numF s 0 n0).1, (numF (numF s 0 n0).2.1 (numF s 0 n0).2.2 n1).1, (numF (numF (numF s 0 n0).2.1 (numF s 0 n0).2.2 n1).2.1 (numF (numF s 0 n0).2.1 (numF s 0 n0).2.2 n1).2.2 n2).1, (numF (numF (numF (numF s 0 n0).2.1 (numF s 0 n0).2.2 n1).2.1 (numF (numF s 0 n0).2.1 (numF s 0 n0).2.2 n1).2.2 n2).2.1 (numF (numF (numF s 0 n0).2.1 (numF s 0 n0).2.2 n1).2.1 (numF (numF s 0 n0).2.1 (numF s 0 n0).2.2 n1).2.2 n2).2.2 n3).1, (numF (numF (numF (numF s 0 n0).2.1 (numF s 0 n0).2.2 n1).2.1 (numF (numF s 0 n0).2.1 (numF s 0 n0).2.2 n1).2.2 n2).2.1 (numF (numF (numF s 0 n0).2.1 (numF s 0 n0).2.2 n1).2.1 (numF (numF s 0 n0).2.1 (numF s 0 n0).2.2 n1).2.2 n2).2.2 n3).2.1, (numF (numF (numF (numF s 0 n0).2.1 (numF s 0 n0).2.2 n1).2.1 (numF (numF s 0 n0).2.1 (numF s 0 n0).2.2 n1).2.2 n2).2.1 (numF (numF (numF s 0 n0).2.1 (numF s 0 n0).2.2 n1).2.1 (numF (numF s 0 n0).2.1 (numF s 0 n0).2.2 n1).2.2 n2).2.2 n3).2.2⟩) := rfl
  have hlt := hP.1.lt
  have HP := Lib.hid hP
  clear hP
  go_enter Try.func47, Try.ntmps47
  go_wp2_with (fail)
  refine (New_any s _).mono ?_
  rintro e w1 ⟨rfl, hr, hbl⟩
  have HP1 : Hid (Blk w1 b #[.pointer (some ⟨p0, 0, none⟩), .pointer (some ⟨p1, 0, none⟩), .pointer (some ⟨p2, 0, none⟩), .pointer (some ⟨p3, 0, none⟩)] 94 ∧ Blk w1 p0 #[.int .i64 n0, .int .i64 0] 80 ∧ Blk w1 p1 #[.int .i64 n1, .int .i64 0] 80 ∧ Blk w1 p2 #[.int .i64 n2, .int .i64 0] 80 ∧ Blk w1 p3 #[.int .i64 n3, .int .i64 0] 80) := ⟨HP.out.1.below hbl, HP.out.2.1.below hbl, HP.out.2.2.1.below hbl, HP.out.2.2.2.1.below hbl, HP.out.2.2.2.2.below hbl⟩
  have HR1 := Lib.hid hr
  have HB1 := Lib.hid (hbl.mono (show p0 ≤ w.heap.size by omega))
  clear hr hbl HP
  have hsz : w.heap.size ≤ w1.heap.size := Nat.le_of_lt HR1.out.lt
  have hgb : b < w.heap.size := hlt
  generalize hG : w.heap.size = g at *
  go_wp2
  refine wp_loop_rounds 5 ?_
  rw [rounds_succ]
  have cb := HP1.out.1.cell 0
  have c0 := HP1.out.2.1.cell 0
  have c1 := HP1.out.2.1.cell 1
  go_wp2_with (fail)
  refine (RNum_any g s 0 n0 _ HR1.out).mono ?_
  rintro e v0 ⟨rfl, hr, ho⟩
  generalize numF s 0 n0 = r at *
  obtain ⟨x0, s1, e1⟩ := r
  simp only at hr HG
  have HQ : Hid (Blk v0 b #[.pointer (some ⟨p0, 0, none⟩), .pointer (some ⟨p1, 0, none⟩), .pointer (some ⟨p2, 0, none⟩), .pointer (some ⟨p3, 0, none⟩)] 94 ∧ Blk v0 p0 #[.int .i64 n0, .int .i64 0] 80 ∧ Blk v0 p1 #[.int .i64 n1, .int .i64 0] 80 ∧ Blk v0 p2 #[.int .i64 n2, .int .i64 0] 80 ∧ Blk v0 p3 #[.int .i64 n3, .int .i64 0] 80) := ⟨HP1.out.1.only ho (by omega), HP1.out.2.1.only ho (by omega), HP1.out.2.2.1.only ho (by omega), HP1.out.2.2.2.1.only ho (by omega), HP1.out.2.2.2.2.only ho (by omega)⟩
  have HB2 := Lib.hid ((below_only HB1.out ho (by omega) (by have := HB1.out.size; omega)).setCell (p := ⟨p0, 1, none⟩) (show p0 ≤ p0 by omega) (.int .i64 x0))
  have HR2 : Hid (IsR g s1 e1 (v0.setCell ⟨p0, 1, none⟩ (.int .i64 x0))) := hr.set_ne (show g ≠ p0 by omega) _
  have HP2 : Hid (Blk (v0.setCell ⟨p0, 1, none⟩ (.int .i64 x0)) b #[.pointer (some ⟨p0, 0, none⟩), .pointer (some ⟨p1, 0, none⟩), .pointer (some ⟨p2, 0, none⟩), .pointer (some ⟨p3, 0, none⟩)] 94 ∧ Blk (v0.setCell ⟨p0, 1, none⟩ (.int .i64 x0)) p0 #[.int .i64 n0, .int .i64 x0] 80 ∧ Blk (v0.setCell ⟨p0, 1, none⟩ (.int .i64 x0)) p1 #[.int .i64 n1, .int .i64 0] 80 ∧ Blk (v0.setCell ⟨p0, 1, none⟩ (.int .i64 x0)) p2 #[.int .i64 n2, .int .i64 0] 80 ∧ Blk (v0.setCell ⟨p0, 1, none⟩ (.int .i64 x0)) p3 #[.int .i64 n3, .int .i64 0] 80) := ⟨HQ.out.1.set_ne (show b ≠ p0 by omega) _, HQ.out.2.1.set 1 _, HQ.out.2.2.1.set_ne (show p1 ≠ p0 by omega) _, HQ.out.2.2.2.1.set_ne (show p2 ≠ p0 by omega) _, HQ.out.2.2.2.2.set_ne (show p3 ≠ p0 by omega) _⟩
  have d1 := HQ.out.2.1.cell 1
  have f1 := HQ.out.2.1.frozen 1
  clear cb c0 c1 hr ho HQ HP1 HR1 HB1
  go_wp2
  generalize v0.setCell ⟨p0, 1, none⟩ (.int .i64 x0) = w2 at *
  clear d1 f1 v0
  rw [rounds_succ]
  have cb := HP2.out.1.cell 1
  have c0 := HP2.out.2.2.1.cell 0
  have c1 := HP2.out.2.2.1.cell 1
  go_wp2_with (fail)
  refine (RNum_any g s1 e1 n1 _ HR2.out).mono ?_
  rintro e v1 ⟨rfl, hr, ho⟩
  generalize numF s1 e1 n1 = r at *
  obtain ⟨x1, s2, e2⟩ := r
  simp only at hr HG
  have HQ : Hid (Blk v1 b #[.pointer (some ⟨p0, 0, none⟩), .pointer (some ⟨p1, 0, none⟩), .pointer (some ⟨p2, 0, none⟩), .pointer (some ⟨p3, 0, none⟩)] 94 ∧ Blk v1 p0 #[.int .i64 n0, .int .i64 x0] 80 ∧ Blk v1 p1 #[.int .i64 n1, .int .i64 0] 80 ∧ Blk v1 p2 #[.int .i64 n2, .int .i64 0] 80 ∧ Blk v1 p3 #[.int .i64 n3, .int .i64 0] 80) := ⟨HP2.out.1.only ho (by omega), HP2.out.2.1.only ho (by omega), HP2.out.2.2.1.only ho (by omega), HP2.out.2.2.2.1.only ho (by omega), HP2.out.2.2.2.2.only ho (by omega)⟩
  have HB3 := Lib.hid ((below_only HB2.out ho (by omega) (by have := HB2.out.size; omega)).setCell (p := ⟨p1, 1, none⟩) (show p0 ≤ p1 by omega) (.int .i64 x1))
  have HR3 : Hid (IsR g s2 e2 (v1.setCell ⟨p1, 1, none⟩ (.int .i64 x1))) := hr.set_ne (show g ≠ p1 by omega) _
  have HP3 : Hid (Blk (v1.setCell ⟨p1, 1, none⟩ (.int .i64 x1)) b #[.pointer (some ⟨p0, 0, none⟩), .pointer (some ⟨p1, 0, none⟩), .pointer (some ⟨p2, 0, none⟩), .pointer (some ⟨p3, 0, none⟩)] 94 ∧ Blk (v1.setCell ⟨p1, 1, none⟩ (.int .i64 x1)) p0 #[.int .i64 n0, .int .i64 x0] 80 ∧ Blk (v1.setCell ⟨p1, 1, none⟩ (.int .i64 x1)) p1 #[.int .i64 n1, .int .i64 x1] 80 ∧ Blk (v1.setCell ⟨p1, 1, none⟩ (.int .i64 x1)) p2 #[.int .i64 n2, .int .i64 0] 80 ∧ Blk (v1.setCell ⟨p1, 1, none⟩ (.int .i64 x1)) p3 #[.int .i64 n3, .int .i64 0] 80) := ⟨HQ.out.1.set_ne (show b ≠ p1 by omega) _, HQ.out.2.1.set_ne (show p0 ≠ p1 by omega) _, HQ.out.2.2.1.set 1 _, HQ.out.2.2.2.1.set_ne (show p2 ≠ p1 by omega) _, HQ.out.2.2.2.2.set_ne (show p3 ≠ p1 by omega) _⟩
  have d1 := HQ.out.2.2.1.cell 1
  have f1 := HQ.out.2.2.1.frozen 1
  clear cb c0 c1 hr ho HQ HP2 HR2 HB2
  go_wp2
  generalize v1.setCell ⟨p1, 1, none⟩ (.int .i64 x1) = w3 at *
  clear d1 f1 v1
  rw [rounds_succ]
  have cb := HP3.out.1.cell 2
  have c0 := HP3.out.2.2.2.1.cell 0
  have c1 := HP3.out.2.2.2.1.cell 1
  go_wp2_with (fail)
  refine (RNum_any g s2 e2 n2 _ HR3.out).mono ?_
  rintro e v2 ⟨rfl, hr, ho⟩
  generalize numF s2 e2 n2 = r at *
  obtain ⟨x2, s3, e3⟩ := r
  simp only at hr HG
  have HQ : Hid (Blk v2 b #[.pointer (some ⟨p0, 0, none⟩), .pointer (some ⟨p1, 0, none⟩), .pointer (some ⟨p2, 0, none⟩), .pointer (some ⟨p3, 0, none⟩)] 94 ∧ Blk v2 p0 #[.int .i64 n0, .int .i64 x0] 80 ∧ Blk v2 p1 #[.int .i64 n1, .int .i64 x1] 80 ∧ Blk v2 p2 #[.int .i64 n2, .int .i64 0] 80 ∧ Blk v2 p3 #[.int .i64 n3, .int .i64 0] 80) := ⟨HP3.out.1.only ho (by omega), HP3.out.2.1.only ho (by omega), HP3.out.2.2.1.only ho (by omega), HP3.out.2.2.2.1.only ho (by omega), HP3.out.2.2.2.2.only ho (by omega)⟩
  have HB4 := Lib.hid ((below_only HB3.out ho (by omega) (by have := HB3.out.size; omega)).setCell (p := ⟨p2, 1, none⟩) (show p0 ≤ p2 by omega) (.int .i64 x2))
  have HR4 : Hid (IsR g s3 e3 (v2.setCell ⟨p2, 1, none⟩ (.int .i64 x2))) := hr.set_ne (show g ≠ p2 by omega) _
  have HP4 : Hid (Blk (v2.setCell ⟨p2, 1, none⟩ (.int .i64 x2)) b #[.pointer (some ⟨p0, 0, none⟩), .pointer (some ⟨p1, 0, none⟩), .pointer (some ⟨p2, 0, none⟩), .pointer (some ⟨p3, 0, none⟩)] 94 ∧ Blk (v2.setCell ⟨p2, 1, none⟩ (.int .i64 x2)) p0 #[.int .i64 n0, .int .i64 x0] 80 ∧ Blk (v2.setCell ⟨p2, 1, none⟩ (.int .i64 x2)) p1 #[.int .i64 n1, .int .i64 x1] 80 ∧ Blk (v2.setCell ⟨p2, 1, none⟩ (.int .i64 x2)) p2 #[.int .i64 n2, .int .i64 x2] 80 ∧ Blk (v2.setCell ⟨p2, 1, none⟩ (.int .i64 x2)) p3 #[.int .i64 n3, .int .i64 0] 80) := ⟨HQ.out.1.set_ne (show b ≠ p2 by omega) _, HQ.out.2.1.set_ne (show p0 ≠ p2 by omega) _, HQ.out.2.2.1.set_ne (show p1 ≠ p2 by omega) _, HQ.out.2.2.2.1.set 1 _, HQ.out.2.2.2.2.set_ne (show p3 ≠ p2 by omega) _⟩
  have d1 := HQ.out.2.2.2.1.cell 1
  have f1 := HQ.out.2.2.2.1.frozen 1
  clear cb c0 c1 hr ho HQ HP3 HR3 HB3
  go_wp2
  generalize v2.setCell ⟨p2, 1, none⟩ (.int .i64 x2) = w4 at *
  clear d1 f1 v2
  rw [rounds_succ]
  have cb := HP4.out.1.cell 3
  have c0 := HP4.out.2.2.2.2.cell 0
  have c1 := HP4.out.2.2.2.2.cell 1
  go_wp2_with (fail)
  refine (RNum_any g s3 e3 n3 _ HR4.out).mono ?_
  rintro e v3 ⟨rfl, hr, ho⟩
  generalize numF s3 e3 n3 = r at *
  obtain ⟨x3, s4, e4⟩ := r
  simp only at hr HG
  have HQ : Hid (Blk v3 b #[.pointer (some ⟨p0, 0, none⟩), .pointer (some ⟨p1, 0, none⟩), .pointer (some ⟨p2, 0, none⟩), .pointer (some ⟨p3, 0, none⟩)] 94 ∧ Blk v3 p0 #[.int .i64 n0, .int .i64 x0] 80 ∧ Blk v3 p1 #[.int .i64 n1, .int .i64 x1] 80 ∧ Blk v3 p2 #[.int .i64 n2, .int .i64 x2] 80 ∧ Blk v3 p3 #[.int .i64 n3, .int .i64 0] 80) := ⟨HP4.out.1.only ho (by omega), HP4.out.2.1.only ho (by omega), HP4.out.2.2.1.only ho (by omega), HP4.out.2.2.2.1.only ho (by omega), HP4.out.2.2.2.2.only ho (by omega)⟩
  have HB5 := Lib.hid ((below_only HB4.out ho (by omega) (by have := HB4.out.size; omega)).setCell (p := ⟨p3, 1, none⟩) (show p0 ≤ p3 by omega) (.int .i64 x3))
  have HR5 : Hid (IsR g s4 e4 (v3.setCell ⟨p3, 1, none⟩ (.int .i64 x3))) := hr.set_ne (show g ≠ p3 by omega) _
  have HP5 : Hid (Blk (v3.setCell ⟨p3, 1, none⟩ (.int .i64 x3)) b #[.pointer (some ⟨p0, 0, none⟩), .pointer (some ⟨p1, 0, none⟩), .pointer (some ⟨p2, 0, none⟩), .pointer (some ⟨p3, 0, none⟩)] 94 ∧ Blk (v3.setCell ⟨p3, 1, none⟩ (.int .i64 x3)) p0 #[.int .i64 n0, .int .i64 x0] 80 ∧ Blk (v3.setCell ⟨p3, 1, none⟩ (.int .i64 x3)) p1 #[.int .i64 n1, .int .i64 x1] 80 ∧ Blk (v3.setCell ⟨p3, 1, none⟩ (.int .i64 x3)) p2 #[.int .i64 n2, .int .i64 x2] 80 ∧ Blk (v3.setCell ⟨p3, 1, none⟩ (.int .i64 x3)) p3 #[.int .i64 n3, .int .i64 x3] 80) := ⟨HQ.out.1.set_ne (show b ≠ p3 by omega) _, HQ.out.2.1.set_ne (show p0 ≠ p3 by omega) _, HQ.out.2.2.1.set_ne (show p1 ≠ p3 by omega) _, HQ.out.2.2.2.1.set_ne (show p2 ≠ p3 by omega) _, HQ.out.2.2.2.2.set 1 _⟩
  have d1 := HQ.out.2.2.2.2.cell 1
  have f1 := HQ.out.2.2.2.2.frozen 1
  clear cb c0 c1 hr ho HQ HP4 HR4 HB4
  go_wp2
  generalize v3.setCell ⟨p3, 1, none⟩ (.int .i64 x3) = w5 at *
  clear d1 f1 v3
  rw [rounds_succ]
  go_wp2_with (fail)
  refine (End_any g s4 e4 _ HR5.out).mono ?_
  rintro e w6 ⟨rfl, rfl⟩
  go_wp2
  go_ret
  unfold Get4Post
  rw [HG.out]
  exact ⟨rfl, HP5.out.2.1, HP5.out.2.2.1, HP5.out.2.2.2.1, HP5.out.2.2.2.2, HB5.out⟩

end Go.Proofs.Ytdiebameocbahaa
