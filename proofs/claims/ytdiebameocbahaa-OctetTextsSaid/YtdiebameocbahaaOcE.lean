/- octet.Reader: what each method does to a reader that the call made. -/
import Derived.Test.YtdiebameocbahaaOcC
namespace Go.Proofs.Ytdiebameocbahaa
open Go.Shelf Go.RowKit

/-- A reader in a block of its own: what is left, and its error. -/
def IsR (g : Nat) (s : List UInt8) (e : Int) (w : World) : Prop := w.heap[g]? = some (.cells #[.string (S s), .int .i64 e] 90 (0, 0))
/-- Only block g has turned; new blocks may be there. -/
abbrev Only (g : Nat) (w w' : World) : Prop := w.grownBy w' (some g)

section
variable {g : Nat} {s s' : List UInt8} {e e' : Int} {w w' w1 w2 : World}
theorem IsR.c0 (h : IsR g s e w) : w.cell? ⟨g, 0, none⟩ = some (.string (S s)) := by rw [Lib.cell_of_heap h]; rfl
theorem IsR.c1 (h : IsR g s e w) : w.cell? ⟨g, 1, none⟩ = some (.int .i64 e) := by rw [Lib.cell_of_heap h]; rfl
theorem IsR.f0 (h : IsR g s e w) : w.frozen? ⟨g, 0, none⟩ = false := Lib.frozen_of_heap h 0
theorem IsR.f1 (h : IsR g s e w) : w.frozen? ⟨g, 1, none⟩ = false := Lib.frozen_of_heap h 1
theorem IsR.lt (h : IsR g s e w) : g < w.heap.size := by
  rcases Nat.lt_or_ge g w.heap.size with h' | h'
  · exact h'
  · unfold IsR at h; simp [Array.getElem?_eq_none h'] at h
theorem IsR.set0 (h : IsR g s e w) (x : List UInt8) : IsR g x e (w.setCell ⟨g, 0, none⟩ (.string (S x))) := by
  unfold IsR at *
  rw [heap_setCell_same w g 0 _ _ _ h]
  rfl
theorem IsR.set1 (h : IsR g s e w) (x : Int) : IsR g s x (w.setCell ⟨g, 1, none⟩ (.int .i64 x)) := by
  unfold IsR at *
  rw [heap_setCell_same w g 1 _ _ _ h]
  rfl
theorem IsR.below (h : IsR g s e w) (hb : Below w.heap.size w w') : IsR g s e w' := by
  have := h.lt
  unfold IsR at *
  rw [hb.block g this]
  exact h
theorem Only.refl : Only g w w := World.grownBy.refl w _
theorem Only.set (v : Value) (o : Nat) (h : Only g w w1) : Only g w (w1.setCell ⟨g, o, none⟩ v) :=
  World.grownBy.trans h ⟨rfl, rfl, rfl, by simp, fun k _ hk => heap_setCell_other w1 ⟨g, o, none⟩ k v (fun e => hk (by simp [e]))⟩
theorem Only.trans (h : Only g w w1) (h' : Only g w1 w2) : Only g w w2 := World.grownBy.trans h h'
/-- As seen from the call's begin, where the reader was made since. -/
theorem below_only {B : Nat} {w0 : World} (h : Below B w0 w) (hg : Only g w w') (hB : B ≤ g) (hs : B ≤ w.heap.size) : Below B w0 w' :=
  h.grown hg hs (fun k hk => by injection hk with hk; omega)
end

theorem New_any (s : List UInt8) (w : World) :
    Calls Try.prog 19 #[.string (S s)] w fun e w' => e = .returned (.pointer (some ⟨w.heap.size, 0, none⟩)) ∧ IsR w.heap.size s 0 w' ∧ Below w.heap.size w w' := by
  go_enter Try.func19, Try.ntmps19
  go_wp2
  go_ret
  exact ⟨rfl, heap_alloc_new w _, (Below.refl _ _).alloc (Nat.le_refl _) _⟩

section
variable (g : Nat) (s : List UInt8) (e : Int) (w : World)
set_option maxRecDepth 100000
set_option maxHeartbeats 400000

theorem Err_any (h : IsR g s e w) :
    Calls Try.prog 22 #[.pointer (some ⟨g, 0, none⟩)] w fun x w' => x = .returned (.int .i64 e) ∧ w = w' := by
  have c1 := h.c1
  go_enter Try.func22, Try.ntmps22
  go_wp2
  go_ret
  exact ⟨rfl, rfl⟩

theorem Err_nil : Calls Try.prog 22 #[.pointer none] w fun x w' => x = .returned (.int .i64 1) ∧ w = w' := by
  go_enter Try.func22, Try.ntmps22
  go_wp2
  go_ret
  exact ⟨rfl, rfl⟩

theorem Left_any (h : IsR g s e w) :
    Calls Try.prog 24 #[.pointer (some ⟨g, 0, none⟩)] w fun x w' => x = .returned (.int .i64 s.length) ∧ w = w' := by
  have c0 := h.c0
  go_enter Try.func24, Try.ntmps24
  go_wp2
  go_ret
  exact ⟨rfl, rfl⟩

theorem Left_nil : Calls Try.prog 24 #[.pointer none] w fun x w' => x = .returned (.int .i64 0) ∧ w = w' := by
  go_enter Try.func24, Try.ntmps24
  go_wp2
  go_ret
  exact ⟨rfl, rfl⟩

end

/-- What End answers. -/
def endF (s : List UInt8) (e : Int) : Int := if e ≠ 0 then e else if s.length = 0 then 0 else 4

set_option maxRecDepth 100000 in
set_option maxHeartbeats 400000 in
theorem End_any (g : Nat) (s : List UInt8) (e : Int) (w : World) (h : IsR g s e w) :
    Calls Try.prog 21 #[.pointer (some ⟨g, 0, none⟩)] w fun x w' => x = .returned (.int .i64 (endF s e)) ∧ w = w' := by
  by_cases he : e = 0
  · subst he
    by_cases hs : s.length = 0
    all_goals
      go_enter Try.func21, Try.ntmps21
      go_wp2_with (fail)
      refine (Err_any g s 0 w h).mono ?_
      rintro x w' ⟨rfl, rfl⟩
      go_wp2_with (fail)
      refine (Left_any g s 0 w h).mono ?_
      rintro x w' ⟨rfl, rfl⟩
      go_wp2
      go_ret
      exact ⟨ret_int (by simp [endF, hs]), rfl⟩
  · have hb : (e != 0) = true := by simpa using he
    go_enter Try.func21, Try.ntmps21
    go_wp2_with (fail)
    refine (Err_any g s e w h).mono ?_
    rintro x w' ⟨rfl, rfl⟩
    go_wp2
    go_ret
    exact ⟨ret_int (by simp [endF, he]), rfl⟩

set_option maxRecDepth 100000 in
set_option maxHeartbeats 400000 in
theorem End_nil (w : World) : Calls Try.prog 21 #[.pointer none] w fun x w' => x = .returned (.int .i64 1) ∧ w = w' := by
  go_enter Try.func21, Try.ntmps21
  go_wp2_with (fail)
  refine (Err_nil w).mono ?_
  rintro x w' ⟨rfl, rfl⟩
  go_wp2
  go_ret
  exact ⟨rfl, rfl⟩

/-- Take: the bytes, what is left, the error. -/
def takeF (s : List UInt8) (e n : Int) : List UInt8 × List UInt8 × Int :=
  if e ≠ 0 then ([], s, e) else if n < 0 then ([], s, 1) else if (s.length : Int) < n then ([], s, 3) else (s.take n.toNat, s.drop n.toNat, 0)

set_option maxRecDepth 100000 in
set_option maxHeartbeats 400000 in
theorem Take_any (g : Nat) (s : List UInt8) (e n : Int) (w : World) (h : IsR g s e w) :
    Calls Try.prog 30 #[.pointer (some ⟨g, 0, none⟩), .int .i64 n] w fun x w' => x = .returned (.string (S (takeF s e n).1)) ∧ IsR g (takeF s e n).2.1 (takeF s e n).2.2 w' ∧ Only g w w' := by
  by_cases he : e = 0
  · subst he
    have c0 := h.c0
    have c1 := h.c1
    have f0 := h.f0
    have f1 := h.f1
    by_cases hn : n < 0
    · go_enter Try.func30, Try.ntmps30
      go_wp2_with (fail)
      refine (Err_any g s 0 w h).mono ?_
      rintro x w' ⟨rfl, rfl⟩
      go_wp2
      go_ret
      have hf : takeF s 0 n = ([], s, 1) := by simp [takeF, hn]
      rw [hf]
      exact ⟨rfl, h.set1 1, Only.refl.set _ _⟩
    · by_cases hl : (s.length : Int) < n
      · go_enter Try.func30, Try.ntmps30
        go_wp2_with (fail)
        refine (Err_any g s 0 w h).mono ?_
        rintro x w' ⟨rfl, rfl⟩
        go_wp2
        go_ret
        have hf : takeF s 0 n = ([], s, 3) := by simp [takeF, hn, hl]
        rw [hf]
        exact ⟨rfl, h.set1 3, Only.refl.set _ _⟩
      · go_enter Try.func30, Try.ntmps30
        go_wp2_with (fail)
        refine (Err_any g s 0 w h).mono ?_
        rintro x w' ⟨rfl, rfl⟩
        go_wp2
        go_ret
        have hf : takeF s 0 n = (s.take n.toNat, s.drop n.toNat, 0) := by unfold takeF; rw [if_neg (by simp), if_neg (by omega), if_neg (by omega)]
        rw [hf]
        exact ⟨rfl, h.set0 _, Only.refl.set _ _⟩
  · have hb : (e != 0) = true := by simpa using he
    go_enter Try.func30, Try.ntmps30
    go_wp2_with (fail)
    refine (Err_any g s e w h).mono ?_
    rintro x w' ⟨rfl, rfl⟩
    go_wp2
    go_ret
    have hf : takeF s e n = ([], s, e) := by simp [takeF, he]
    rw [hf]
    exact ⟨rfl, h, Only.refl⟩

/-- Num: the number, what is left, the error. -/
def numF (s : List UInt8) (e n : Int) : Int × List UInt8 × Int :=
  if e ≠ 0 then (0, s, e) else if n < 1 ∨ 7 < n then (0, s, 1) else if (s.length : Int) < n then (0, s, 3) else ((num (s.take n.toNat) : Int), s.drop n.toNat, 0)

set_option maxRecDepth 100000 in
set_option maxHeartbeats 400000 in
theorem RNum_any (g : Nat) (s : List UInt8) (e n : Int) (w : World) (h : IsR g s e w) :
    Calls Try.prog 20 #[.pointer (some ⟨g, 0, none⟩), .int .i64 n] w fun x w' => x = .returned (.int .i64 (numF s e n).1) ∧ IsR g (numF s e n).2.1 (numF s e n).2.2 w' ∧ Only g w w' := by
  by_cases he : e = 0
  · subst he
    have c0 := h.c0
    have c1 := h.c1
    have f0 := h.f0
    have f1 := h.f1
    by_cases hn : n < 1 ∨ 7 < n
    · have hf : numF s 0 n = (0, s, 1) := by simp [numF, hn]
      rw [hf]
      rcases hn with hn | hn
      · go_enter Try.func20, Try.ntmps20
        go_wp2_with (fail)
        refine (Err_any g s 0 w h).mono ?_
        rintro x w' ⟨rfl, rfl⟩
        go_wp2
        go_ret
        exact ⟨rfl, h.set1 1, Only.refl.set _ _⟩
      · have hn1 : ¬ n < 1 := by omega
        go_enter Try.func20, Try.ntmps20
        go_wp2_with (fail)
        refine (Err_any g s 0 w h).mono ?_
        rintro x w' ⟨rfl, rfl⟩
        go_wp2
        go_ret
        exact ⟨rfl, h.set1 1, Only.refl.set _ _⟩
    · have h1 : ¬ n < 1 := by omega
      have h7 : ¬ 7 < n := by omega
      have Ht : Hid (takeF s 0 n = if (s.length : Int) < n then ([], s, 3) else (s.take n.toNat, s.drop n.toNat, 0)) := by
        apply Lib.hid
        unfold takeF
        rw [if_neg (by simp), if_neg (by omega)]
      have Hf : Hid (numF s 0 n = if (s.length : Int) < n then (0, s, 3) else ((num (s.take n.toNat) : Int), s.drop n.toNat, 0)) := by
        apply Lib.hid
        unfold numF
        rw [if_neg (by simp), if_neg (by omega)]
      go_enter Try.func20, Try.ntmps20
      go_wp2_with (fail)
      refine (Err_any g s 0 w h).mono ?_
      rintro x w' ⟨rfl, rfl⟩
      go_wp2_with (fail)
      refine (Take_any g s 0 n w h).mono ?_
      rintro x w' ⟨rfl, hr, ho⟩
      have hsz : (S (takeF s 0 n).1).size ≤ 7 := by
        rw [Ht.out, S_size]
        split
        · simp
        · simp; omega
      have Hr := Lib.hid hr
      clear hr
      go_wp2_with (fail)
      refine (get_any _ _ hsz).mono ?_
      rintro x w'' ⟨rfl, rfl⟩
      go_wp2
      go_ret
      have hr := Hr.out
      rw [Hf.out]
      rw [Ht.out] at hr ⊢
      split
      · rename_i hlt; rw [if_pos hlt] at hr; exact ⟨rfl, hr, ho⟩
      · rename_i hlt; rw [if_neg hlt] at hr; exact ⟨rfl, hr, ho⟩
  · have hb : (e != 0) = true := by simpa using he
    go_enter Try.func20, Try.ntmps20
    go_wp2_with (fail)
    refine (Err_any g s e w h).mono ?_
    rintro x w' ⟨rfl, rfl⟩
    go_wp2
    go_ret
    have hf : numF s e n = (0, s, e) := by simp [numF, he]
    rw [hf]
    exact ⟨rfl, h, Only.refl⟩

end Go.Proofs.Ytdiebameocbahaa
