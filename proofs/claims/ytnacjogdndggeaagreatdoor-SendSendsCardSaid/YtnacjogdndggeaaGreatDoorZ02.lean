/- octet.Reader: what each method does to a reader that the call made. octet.Reader's Text and List. octet.Reader's List. Layer 7: entry.put, the three Puts: what each comes to. -/
import Derived.Test.YtnacjogdndggeaaGreatDoorZ01
section
namespace Go.Proofs.YtnacjogdndggeaaGreatDoor
open Go.Shelf Go.RowKit

/-- A reader in a block of its own: what is left, and its error. -/
def IsR (g : Nat) (s : List UInt8) (e : Int) (w : World) : Prop := w.heap[g]? = some (.cells #[.string (S s), .int .i64 e] 196 (0, 0))
/-- Only block g has turned; new blocks may be there. -/
abbrev Only (g : Nat) (w w' : World) : Prop := w.grownBy w' (some g)

section
variable {g : Nat} {s s' : List UInt8} {e e' : Int} {w w' w1 w2 : World}
theorem IsR.c0 (h : IsR g s e w) : w.cell? ⟨g, 0, none⟩ = some (.string (S s)) := by rw [Lib.cell_of_heap h]; rfl
theorem IsR.c1 (h : IsR g s e w) : w.cell? ⟨g, 1, none⟩ = some (.int .i64 e) := by rw [Lib.cell_of_heap h]; rfl
theorem IsR.f0 (h : IsR g s e w) : w.frozen? ⟨g, 0, none⟩ = false := Lib.frozen_of_heap h 0
theorem IsR.f1 (h : IsR g s e w) : w.frozen? ⟨g, 1, none⟩ = false := Lib.frozen_of_heap h 1
theorem IsR.lt (h : IsR g s e w) : g < w.heap.size := by
  rcases Nat.lt_or_ge g w.heap.size with h' | h'
  · exact h'
  · unfold IsR at h; simp [Array.getElem?_eq_none h'] at h
theorem IsR.set0 (h : IsR g s e w) (x : List UInt8) : IsR g x e (w.setCell ⟨g, 0, none⟩ (.string (S x))) := by
  unfold IsR at *
  rw [heap_setCell_same w g 0 _ _ _ h]
  rfl
theorem IsR.set1 (h : IsR g s e w) (x : Int) : IsR g s x (w.setCell ⟨g, 1, none⟩ (.int .i64 x)) := by
  unfold IsR at *
  rw [heap_setCell_same w g 1 _ _ _ h]
  rfl
theorem IsR.below (h : IsR g s e w) (hb : Below w.heap.size w w') : IsR g s e w' := by
  have := h.lt
  unfold IsR at *
  rw [hb.block g this]
  exact h
theorem Only.refl : Only g w w := World.grownBy.refl w _
theorem Only.set (v : Value) (o : Nat) (h : Only g w w1) : Only g w (w1.setCell ⟨g, o, none⟩ v) :=
  World.grownBy.trans h ⟨rfl, rfl, rfl, by simp, fun k _ hk => heap_setCell_other w1 ⟨g, o, none⟩ k v (fun e => hk (by simp [e]))⟩
theorem Only.trans (h : Only g w w1) (h' : Only g w1 w2) : Only g w w2 := World.grownBy.trans h h'
/-- As seen from the call's begin, where the reader was made since. -/
theorem below_only {B : Nat} {w0 : World} (h : Below B w0 w) (hg : Only g w w') (hB : B ≤ g) (hs : B ≤ w.heap.size) : Below B w0 w' :=
  h.grown hg hs (fun k hk => by injection hk with hk; omega)
end

theorem New_any (s : List UInt8) (w : World) :
    Calls Tryz.prog 69 #[.string (S s)] w fun e w' => e = .returned (.pointer (some ⟨w.heap.size, 0, none⟩)) ∧ IsR w.heap.size s 0 w' ∧ Below w.heap.size w w' := by
  go_enter Tryz.func69, Tryz.ntmps69
  go_wp2
  go_ret
  exact ⟨rfl, heap_alloc_new w _, (Below.refl _ _).alloc (Nat.le_refl _) _⟩

section
variable (g : Nat) (s : List UInt8) (e : Int) (w : World)
set_option maxRecDepth 100000
set_option maxHeartbeats 400000

theorem Err_any (h : IsR g s e w) :
    Calls Tryz.prog 72 #[.pointer (some ⟨g, 0, none⟩)] w fun x w' => x = .returned (.int .i64 e) ∧ w = w' := by
  have c1 := h.c1
  go_enter Tryz.func72, Tryz.ntmps72
  go_wp2
  go_ret
  exact ⟨rfl, rfl⟩

theorem Err_nil : Calls Tryz.prog 72 #[.pointer none] w fun x w' => x = .returned (.int .i64 1) ∧ w = w' := by
  go_enter Tryz.func72, Tryz.ntmps72
  go_wp2
  go_ret
  exact ⟨rfl, rfl⟩

theorem Left_any (h : IsR g s e w) :
    Calls Tryz.prog 194 #[.pointer (some ⟨g, 0, none⟩)] w fun x w' => x = .returned (.int .i64 s.length) ∧ w = w' := by
  have c0 := h.c0
  go_enter Tryz.func194, Tryz.ntmps194
  go_wp2
  go_ret
  exact ⟨rfl, rfl⟩

theorem Left_nil : Calls Tryz.prog 194 #[.pointer none] w fun x w' => x = .returned (.int .i64 0) ∧ w = w' := by
  go_enter Tryz.func194, Tryz.ntmps194
  go_wp2
  go_ret
  exact ⟨rfl, rfl⟩

end

/-- What End answers. -/
def endF (s : List UInt8) (e : Int) : Int := if e ≠ 0 then e else if s.length = 0 then 0 else 4

set_option maxRecDepth 100000 in
set_option maxHeartbeats 400000 in
theorem End_any (g : Nat) (s : List UInt8) (e : Int) (w : World) (h : IsR g s e w) :
    Calls Tryz.prog 133 #[.pointer (some ⟨g, 0, none⟩)] w fun x w' => x = .returned (.int .i64 (endF s e)) ∧ w = w' := by
  by_cases he : e = 0
  · subst he
    by_cases hs : s.length = 0
    all_goals
      go_enter Tryz.func133, Tryz.ntmps133
      go_wp2_with (fail)
      refine (Err_any g s 0 w h).mono ?_
      rintro x w' ⟨rfl, rfl⟩
      go_wp2_with (fail)
      refine (Left_any g s 0 w h).mono ?_
      rintro x w' ⟨rfl, rfl⟩
      go_wp2
      go_ret
      exact ⟨ret_int (by simp [endF, hs]), rfl⟩
  · have hb : (e != 0) = true := by simpa using he
    go_enter Tryz.func133, Tryz.ntmps133
    go_wp2_with (fail)
    refine (Err_any g s e w h).mono ?_
    rintro x w' ⟨rfl, rfl⟩
    go_wp2
    go_ret
    exact ⟨ret_int (by simp [endF, he]), rfl⟩

set_option maxRecDepth 100000 in
set_option maxHeartbeats 400000 in
theorem End_nil (w : World) : Calls Tryz.prog 133 #[.pointer none] w fun x w' => x = .returned (.int .i64 1) ∧ w = w' := by
  go_enter Tryz.func133, Tryz.ntmps133
  go_wp2_with (fail)
  refine (Err_nil w).mono ?_
  rintro x w' ⟨rfl, rfl⟩
  go_wp2
  go_ret
  exact ⟨rfl, rfl⟩

/-- Take: the bytes, what is left, the error. -/
def takeF (s : List UInt8) (e n : Int) : List UInt8 × List UInt8 × Int :=
  if e ≠ 0 then ([], s, e) else if n < 0 then ([], s, 1) else if (s.length : Int) < n then ([], s, 3) else (s.take n.toNat, s.drop n.toNat, 0)

set_option maxRecDepth 100000 in
set_option maxHeartbeats 400000 in
theorem Take_any (g : Nat) (s : List UInt8) (e n : Int) (w : World) (h : IsR g s e w) :
    Calls Tryz.prog 70 #[.pointer (some ⟨g, 0, none⟩), .int .i64 n] w fun x w' => x = .returned (.string (S (takeF s e n).1)) ∧ IsR g (takeF s e n).2.1 (takeF s e n).2.2 w' ∧ Only g w w' := by
  by_cases he : e = 0
  · subst he
    have c0 := h.c0
    have c1 := h.c1
    have f0 := h.f0
    have f1 := h.f1
    by_cases hn : n < 0
    · go_enter Tryz.func70, Tryz.ntmps70
      go_wp2_with (fail)
      refine (Err_any g s 0 w h).mono ?_
      rintro x w' ⟨rfl, rfl⟩
      go_wp2
      go_ret
      have hf : takeF s 0 n = ([], s, 1) := by simp [takeF, hn]
      rw [hf]
      exact ⟨rfl, h.set1 1, Only.refl.set _ _⟩
    · by_cases hl : (s.length : Int) < n
      · go_enter Tryz.func70, Tryz.ntmps70
        go_wp2_with (fail)
        refine (Err_any g s 0 w h).mono ?_
        rintro x w' ⟨rfl, rfl⟩
        go_wp2
        go_ret
        have hf : takeF s 0 n = ([], s, 3) := by simp [takeF, hn, hl]
        rw [hf]
        exact ⟨rfl, h.set1 3, Only.refl.set _ _⟩
      · go_enter Tryz.func70, Tryz.ntmps70
        go_wp2_with (fail)
        refine (Err_any g s 0 w h).mono ?_
        rintro x w' ⟨rfl, rfl⟩
        go_wp2
        go_ret
        have hf : takeF s 0 n = (s.take n.toNat, s.drop n.toNat, 0) := by unfold takeF; rw [if_neg (by simp), if_neg (by omega), if_neg (by omega)]
        rw [hf]
        exact ⟨rfl, h.set0 _, Only.refl.set _ _⟩
  · have hb : (e != 0) = true := by simpa using he
    go_enter Tryz.func70, Tryz.ntmps70
    go_wp2_with (fail)
    refine (Err_any g s e w h).mono ?_
    rintro x w' ⟨rfl, rfl⟩
    go_wp2
    go_ret
    have hf : takeF s e n = ([], s, e) := by simp [takeF, he]
    rw [hf]
    exact ⟨rfl, h, Only.refl⟩

/-- Num: the number, what is left, the error. -/
def numF (s : List UInt8) (e n : Int) : Int × List UInt8 × Int :=
  if e ≠ 0 then (0, s, e) else if n < 1 ∨ 7 < n then (0, s, 1) else if (s.length : Int) < n then (0, s, 3) else ((num (s.take n.toNat) : Int), s.drop n.toNat, 0)

set_option maxRecDepth 100000 in
set_option maxHeartbeats 400000 in
theorem RNum_any (g : Nat) (s : List UInt8) (e n : Int) (w : World) (h : IsR g s e w) :
    Calls Tryz.prog 71 #[.pointer (some ⟨g, 0, none⟩), .int .i64 n] w fun x w' => x = .returned (.int .i64 (numF s e n).1) ∧ IsR g (numF s e n).2.1 (numF s e n).2.2 w' ∧ Only g w w' := by
  by_cases he : e = 0
  · subst he
    have c0 := h.c0
    have c1 := h.c1
    have f0 := h.f0
    have f1 := h.f1
    by_cases hn : n < 1 ∨ 7 < n
    · have hf : numF s 0 n = (0, s, 1) := by simp [numF, hn]
      rw [hf]
      rcases hn with hn | hn
      · go_enter Tryz.func71, Tryz.ntmps71
        go_wp2_with (fail)
        refine (Err_any g s 0 w h).mono ?_
        rintro x w' ⟨rfl, rfl⟩
        go_wp2
        go_ret
        exact ⟨rfl, h.set1 1, Only.refl.set _ _⟩
      · have hn1 : ¬ n < 1 := by omega
        go_enter Tryz.func71, Tryz.ntmps71
        go_wp2_with (fail)
        refine (Err_any g s 0 w h).mono ?_
        rintro x w' ⟨rfl, rfl⟩
        go_wp2
        go_ret
        exact ⟨rfl, h.set1 1, Only.refl.set _ _⟩
    · have h1 : ¬ n < 1 := by omega
      have h7 : ¬ 7 < n := by omega
      have Ht : Hid (takeF s 0 n = if (s.length : Int) < n then ([], s, 3) else (s.take n.toNat, s.drop n.toNat, 0)) := by
        apply Lib.hid
        unfold takeF
        rw [if_neg (by simp), if_neg (by omega)]
      have Hf : Hid (numF s 0 n = if (s.length : Int) < n then (0, s, 3) else ((num (s.take n.toNat) : Int), s.drop n.toNat, 0)) := by
        apply Lib.hid
        unfold numF
        rw [if_neg (by simp), if_neg (by omega)]
      go_enter Tryz.func71, Tryz.ntmps71
      go_wp2_with (fail)
      refine (Err_any g s 0 w h).mono ?_
      rintro x w' ⟨rfl, rfl⟩
      go_wp2_with (fail)
      refine (Take_any g s 0 n w h).mono ?_
      rintro x w' ⟨rfl, hr, ho⟩
      have hsz : (S (takeF s 0 n).1).size ≤ 7 := by
        rw [Ht.out, S_size]
        split
        · simp
        · simp; omega
      have Hr := Lib.hid hr
      clear hr
      go_wp2_with (fail)
      refine (get_any _ _ hsz).mono ?_
      rintro x w'' ⟨rfl, rfl⟩
      go_wp2
      go_ret
      have hr := Hr.out
      rw [Hf.out]
      rw [Ht.out] at hr ⊢
      split
      · rename_i hlt; rw [if_pos hlt] at hr; exact ⟨rfl, hr, ho⟩
      · rename_i hlt; rw [if_neg hlt] at hr; exact ⟨rfl, hr, ho⟩
  · have hb : (e != 0) = true := by simpa using he
    go_enter Tryz.func71, Tryz.ntmps71
    go_wp2_with (fail)
    refine (Err_any g s e w h).mono ?_
    rintro x w' ⟨rfl, rfl⟩
    go_wp2
    go_ret
    have hf : numF s e n = (0, s, e) := by simp [numF, he]
    rw [hf]
    exact ⟨rfl, h, Only.refl⟩

end Go.Proofs.YtnacjogdndggeaaGreatDoor
end

section
namespace Go.Proofs.YtnacjogdndggeaaGreatDoor
open Go.Shelf Go.RowKit

set_option maxRecDepth 100000 in
set_option maxHeartbeats 400000 in
theorem fails_any (g : Nat) (s x : List UInt8) (e y : Int) (w : World) (h : IsR g s e w) :
    Calls Tryz.prog 193 #[.pointer (some ⟨g, 0, none⟩), .int .i64 y, .string (S x)] w fun r w' => r = .returned (.tuple #[]) ∧ IsR g x y w' ∧ Only g w w' := by
  have c0 := h.c0
  have c1 := h.c1
  have f0 := h.f0
  have f1 := h.f1
  go_enter Tryz.func193, Tryz.ntmps193
  go_wp2
  go_end0
  exact ⟨rfl, (h.set1 y).set0 x, (Only.refl.set _ _).set _ _⟩

/-- Text: the text, what is left, the error. -/
def textF (s : List UInt8) (e most : Int) : List UInt8 × List UInt8 × Int :=
  if e ≠ 0 then ([], s, e) else
    let a := numF s 0 2
    let b := takeF a.2.1 (if a.2.2 = 0 ∧ most < a.1 then 6 else a.2.2) a.1
    (b.1, if b.2.2 ≠ 0 then s else b.2.1, b.2.2)

set_option maxRecDepth 100000 in
set_option maxHeartbeats 1000000 in
theorem RText_any (g : Nat) (s : List UInt8) (e most : Int) (w : World) (h : IsR g s e w) :
    Calls Tryz.prog 131 #[.pointer (some ⟨g, 0, none⟩), .int .i64 most] w fun x w' => x = .returned (.string (S (textF s e most).1)) ∧ IsR g (textF s e most).2.1 (textF s e most).2.2 w' ∧ Only g w w' := by
  by_cases he : e = 0
  · subst he
    have c0 := h.c0
    have Hf : Hid (textF s 0 most = (let a := numF s 0 2
      let b := takeF a.2.1 (if a.2.2 = 0 ∧ most < a.1 then 6 else a.2.2) a.1
      (b.1, if b.2.2 ≠ 0 then s else b.2.1, b.2.2))) := by
      apply Lib.hid
      unfold textF
      rw [if_neg (by simp)]
    go_enter Tryz.func131, Tryz.ntmps131
    go_wp2_with (fail)
    refine (Err_any g s 0 w h).mono ?_
    rintro x w' ⟨rfl, rfl⟩
    go_wp2_with (fail)
    refine (RNum_any g s 0 2 w h).mono ?_
    rintro x w1 ⟨rfl, hr1, ho1⟩
    generalize numF s 0 2 = a at *
    obtain ⟨n1, s1, e1⟩ := a
    simp only at *
    have d1 := hr1.c1
    have k1 := hr1.f1
    clear c0
    by_cases h0 : e1 = 0
    · subst h0
      by_cases hm : most < n1
      · go_wp2_with (fail)
        refine (Take_any g s1 6 n1 _ (hr1.set1 6)).mono ?_
        rintro x w2 ⟨rfl, hr2, ho2⟩
        have Hb : Hid (textF s 0 most = ((takeF s1 6 n1).1, if (takeF s1 6 n1).2.2 ≠ 0 then s else (takeF s1 6 n1).2.1, (takeF s1 6 n1).2.2)) := by
          apply Lib.hid
          rw [Hf.out]
          simp only [hm, and_self, if_true]
        generalize takeF s1 6 n1 = b at *
        obtain ⟨t2, s2, e2⟩ := b
        simp only at hr2 Hb
        have O2 := Lib.hid ((ho1.set (.int .i64 6) 1).trans ho2)
        clear ho2
        have d2 := hr2.c1
        by_cases h2 : e2 = 0
        · subst h2
          go_wp2
          go_ret
          rw [Hb.out]
          simp only [ne_eq, not_true_eq_false, if_false]
          exact ⟨rfl, hr2, O2.out⟩
        · have hb2 : (e2 != 0) = true := by simpa using h2
          go_wp2_with (fail)
          refine (fails_any g s2 s e2 e2 w2 hr2).mono ?_
          rintro x w3 ⟨rfl, hr3, ho3⟩
          go_wp2
          go_ret
          rw [Hb.out]
          simp only [ne_eq, h2, not_false_eq_true, if_true]
          exact ⟨rfl, hr3, O2.out.trans ho3⟩
      · go_wp2_with (fail)
        refine (Take_any g s1 0 n1 _ hr1).mono ?_
        rintro x w2 ⟨rfl, hr2, ho2⟩
        have Hb : Hid (textF s 0 most = ((takeF s1 0 n1).1, if (takeF s1 0 n1).2.2 ≠ 0 then s else (takeF s1 0 n1).2.1, (takeF s1 0 n1).2.2)) := by
          apply Lib.hid
          rw [Hf.out]
          simp only [show ¬ most < n1 by omega, and_false, if_false]
        generalize takeF s1 0 n1 = b at *
        obtain ⟨t2, s2, e2⟩ := b
        simp only at hr2 Hb
        have O2 := Lib.hid ((ho1).trans ho2)
        clear ho2
        have d2 := hr2.c1
        by_cases h2 : e2 = 0
        · subst h2
          go_wp2
          go_ret
          rw [Hb.out]
          simp only [ne_eq, not_true_eq_false, if_false]
          exact ⟨rfl, hr2, O2.out⟩
        · have hb2 : (e2 != 0) = true := by simpa using h2
          go_wp2_with (fail)
          refine (fails_any g s2 s e2 e2 w2 hr2).mono ?_
          rintro x w3 ⟨rfl, hr3, ho3⟩
          go_wp2
          go_ret
          rw [Hb.out]
          simp only [ne_eq, h2, not_false_eq_true, if_true]
          exact ⟨rfl, hr3, O2.out.trans ho3⟩
    · have hb : (e1 == 0) = false := by simpa using h0
      go_wp2_with (fail)
      refine (Take_any g s1 e1 n1 _ hr1).mono ?_
      rintro x w2 ⟨rfl, hr2, ho2⟩
      have Hb : Hid (textF s 0 most = ((takeF s1 e1 n1).1, if (takeF s1 e1 n1).2.2 ≠ 0 then s else (takeF s1 e1 n1).2.1, (takeF s1 e1 n1).2.2)) := by
        apply Lib.hid
        rw [Hf.out]
        simp only [h0, false_and, if_false]
      generalize takeF s1 e1 n1 = b at *
      obtain ⟨t2, s2, e2⟩ := b
      simp only at hr2 Hb
      have O2 := Lib.hid ((ho1).trans ho2)
      clear ho2
      have d2 := hr2.c1
      by_cases h2 : e2 = 0
      · subst h2
        go_wp2
        go_ret
        rw [Hb.out]
        simp only [ne_eq, not_true_eq_false, if_false]
        exact ⟨rfl, hr2, O2.out⟩
      · have hb2 : (e2 != 0) = true := by simpa using h2
        go_wp2_with (fail)
        refine (fails_any g s2 s e2 e2 w2 hr2).mono ?_
        rintro x w3 ⟨rfl, hr3, ho3⟩
        go_wp2
        go_ret
        rw [Hb.out]
        simp only [ne_eq, h2, not_false_eq_true, if_true]
        exact ⟨rfl, hr3, O2.out.trans ho3⟩
  · have hb : (e != 0) = true := by simpa using he
    go_enter Tryz.func131, Tryz.ntmps131
    go_wp2_with (fail)
    refine (Err_any g s e w h).mono ?_
    rintro x w' ⟨rfl, rfl⟩
    go_wp2
    go_ret
    have hf : textF s e most = ([], s, e) := by rw [textF, if_pos he]
    rw [hf]
    exact ⟨rfl, h, Only.refl⟩

end Go.Proofs.YtnacjogdndggeaaGreatDoor
end

section
namespace Go.Proofs.YtnacjogdndggeaaGreatDoor
open Go.Shelf Go.RowKit

/-- So many texts, one behind the other: the texts, what is left, the error. -/
def textsF : Nat → List UInt8 → Int → Int → List (List UInt8) × List UInt8 × Int
  | 0, s, e, _ => ([], s, e)
  | k + 1, s, e, most =>
    let r := textsF k s e most
    let t := textF r.2.1 r.2.2 most
    (r.1 ++ [t.1], t.2.1, t.2.2)

theorem textsF_length (k : Nat) (s : List UInt8) (e most : Int) : (textsF k s e most).1.length = k := by
  induction k with
  | zero => rfl
  | succ k ih => simp [textsF, ih]

/-- List: the texts, what is left, the error. -/
def listF (s : List UInt8) (e many most : Int) : List (List UInt8) × List UInt8 × Int :=
  if e ≠ 0 then ([], s, e) else
    let a := numF s 0 1
    let r := textsF a.1.toNat a.2.1 (if a.2.2 = 0 ∧ many < a.1 then 6 else a.2.2) most
    (if r.2.2 ≠ 0 then [] else r.1, if r.2.2 ≠ 0 then s else r.2.1, r.2.2)

theorem num1_bound (s : List UInt8) : 0 ≤ (numF s 0 1).1 ∧ (numF s 0 1).1 ≤ 255 := by
  unfold numF
  rw [if_neg (by simp), if_neg (by omega)]
  split
  · simp
  · have := num_lt (s.take (1 : Int).toNat)
    have h1 : (s.take (1 : Int).toNat).length ≤ 1 := by simp; omega
    have h2 : 256 ^ (s.take (1 : Int).toNat).length ≤ 256 ^ 1 := Nat.pow_le_pow_right (by decide) h1
    constructor
    · simp
    · simp only; omega

/-- Texts as cells. -/
def strVals (l : List (List UInt8)) : List Value := l.map fun s => .string (S s)

theorem infoStr : (Tryz.prog.info? 9).map (fun i => (i.zero, i.size, i.bytes)) = some (some (.string ⟨#[]⟩), 1, 16) := by kernel_rfl

/-- A slice of texts that the call owns, from block B on. -/
def IsTexts (B : Nat) (v : Value) (l : List (List UInt8)) (w : World) : Prop := w.ownsRow B 9 1 v l.length (strVals l)

theorem Only.grown {g : Nat} {w wr w1 : World} {row : Option Nat} (h : Only g w wr) (hg : wr.grownBy w1 row) (hr : ∀ k, row = some k → w.heap.size ≤ k) : Only g w w1 := by
  refine ⟨hg.os.trans h.os, hg.tape.trans h.tape, hg.output.trans h.output, Nat.le_trans h.size hg.size, fun k hk hne => ?_⟩
  rw [hg.block k (Nat.lt_of_lt_of_le hk h.size) (fun e => by have := hr k e.symm; omega)]
  exact h.block k hk hne

theorem IsR.grown {g : Nat} {s : List UInt8} {e : Int} {wr w1 : World} {row : Option Nat} (h : IsR g s e wr) (hg : wr.grownBy w1 row) (hr : row ≠ some g) : IsR g s e w1 := by
  have := h.lt
  unfold IsR at *
  rw [hg.block g this (fun e => hr e.symm)]
  exact h

theorem textsF_succ (k : Nat) (s : List UInt8) (e most : Int) (T : List UInt8 × List UInt8 × Int) (h : textF (textsF k s e most).2.1 (textsF k s e most).2.2 most = T) :
    textsF (k + 1) s e most = ((textsF k s e most).1 ++ [T.1], T.2.1, T.2.2) := by
  simp only [textsF, h]

theorem own_ne {w : World} {base g : Nat} {e : TypeId} {size n : Nat} {v : Value} {xs : List Value} (h : w.ownsRow base e size v n xs) (hg : g < base) : v.ownBlock = none ∨ v.ownBlock ≠ some g := by
  refine .inr (fun he => ?_)
  have := (h.lt g he).1
  omega

/-- What List leaves. -/
def ListPost (g : Nat) (r : List (List UInt8) × List UInt8 × Int) (w : World) (x : Ending) (w' : World) : Prop :=
  ∃ v, x = .returned v ∧ IsTexts w.heap.size v r.1 w' ∧ IsR g r.2.1 r.2.2 w' ∧ Only g w w'

set_option maxRecDepth 100000 in
set_option maxHeartbeats 1000000 in
theorem RList_any (g : Nat) (s : List UInt8) (e many most : Int) (w : World) (h : IsR g s e w) :
    Calls Tryz.prog 132 #[.pointer (some ⟨g, 0, none⟩), .int .i64 many, .int .i64 most] w (ListPost g (listF s e many most) w) := by
  by_cases he : e = 0
  · subst he
    have c0 := h.c0
    have Hf : Hid (listF s 0 many most = (let a := numF s 0 1
      let r := textsF a.1.toNat a.2.1 (if a.2.2 = 0 ∧ many < a.1 then 6 else a.2.2) most
      (if r.2.2 ≠ 0 then [] else r.1, if r.2.2 ≠ 0 then s else r.2.1, r.2.2))) := by
      apply Lib.hid
      unfold listF
      rw [if_neg (by simp)]
    obtain ⟨i0, hi, hz0, hz1, hz2⟩ := info_parts infoStr
    have hb1 := num1_bound s
    have hglt := h.lt
    go_enter Tryz.func132, Tryz.ntmps132
    go_wp2_with (fail)
    refine (Err_any g s 0 w h).mono ?_
    rintro x w' ⟨rfl, rfl⟩
    go_wp2_with (fail)
    refine (RNum_any g s 0 1 w h).mono ?_
    rintro x w1 ⟨rfl, hr1, ho1⟩
    generalize numF s 0 1 = a at *
    obtain ⟨n1, s1, e1⟩ := a
    simp only at *
    obtain ⟨hn0, hn255⟩ := hb1
    obtain ⟨n, rfl⟩ := Int.eq_ofNat_of_zero_le hn0
    have d1 := hr1.c1
    have k1 := hr1.f1
    clear c0
    by_cases h0 : e1 = 0
    · subst h0
      by_cases hm : many < (n : Int)
      · go_wp2_with (fail)
        have Hb : Hid (listF s 0 many most = (if (textsF n s1 6 most).2.2 ≠ 0 then [] else (textsF n s1 6 most).1, if (textsF n s1 6 most).2.2 ≠ 0 then s else (textsF n s1 6 most).2.1, (textsF n s1 6 most).2.2)) := by
          apply Lib.hid
          rw [Hf.out]
          simp only [hm, and_self, if_true, Int.toNat_natCast]
        have HR := Lib.hid (hr1.set1 6)
        have HO := Lib.hid (ho1.set (.int .i64 6) 1)
        go_loopw [9, 33] (fun vl vi wr => ∃ k : Nat, k ≤ n ∧ vi = .int .i64 k ∧ Hid (wr.ownsRow w.heap.size 9 1 vl k (strVals (textsF k s1 6 most).1)) ∧ Hid (IsR g (textsF k s1 6 most).2.1 (textsF k s1 6 most).2.2 wr) ∧ Hid (Only g w wr)) (fun _ vi _ => n - (intOf vi).toNat)
        case atStart => exact ⟨0, Nat.zero_le _, rfl, World.ownsRow_nil .., HR, HO⟩
        case round =>
          obtain ⟨k, hk, rfl, HL, HR, HO⟩ := hrel
          by_cases hlt : k < n
          · go_wp2_with (fail)
            refine (RText_any g _ _ most _ HR.out).mono ?_
            rintro x w2 ⟨rfl, hr2, ho2⟩
            have hown2 := HL.out.kept ho2 (own_ne HL.out hglt)
            have O2 := HO.out.trans ho2
            have hsz2 := O2.size
            generalize hT : textF (textsF k s1 6 most).2.1 (textsF k s1 6 most).2.2 most = T at *
            have HS := Lib.hid (textsF_succ k s1 6 most T hT)
            clear hT
            have HR2 := Lib.hid hr2
            have HO2 := Lib.hid O2
            clear hr2 O2 ho2
            go_wp2_with (at_builtin; refine wpList_append_own _ rfl _ _ 31 rfl w.heap.size 9 i0 (.string ⟨#[]⟩) 1 16 Tryz.underlying31 hi hz0 hz1 hz2 rfl (by decide) _ _ _ rfl (hown2.alloc _) ⟨w2.heap.size, 0, none⟩ 1 1 [.string (S T.1)] rfl rfl (cell_one_new w2 _ _) (by simp [Value.oneCell']) (by unfold maxLen; omega) (by omega) (by simp; omega) ?_; intro v3 w3 hown3 hg3 _)
            have hk3 := own_ne (hown2.alloc (.cells #[.string (S T.1)] 9)) hglt
            have hlt3 := fun k hk => ((hown2.alloc (.cells #[.string (S T.1)] 9)).lt k hk).1
            have HR3 := Lib.hid ((HR2.out.below ((Below.refl _ _).alloc (Nat.le_refl _) (.cells #[.string (S T.1)] 9))).grown hg3 (fun e => by have := hlt3 _ e; omega))
            have HO3 := Lib.hid ((HO2.out.grown (World.grownBy_alloc w2 (.cells #[.string (S T.1)] 9) none) (by simp)).grown hg3 hlt3)
            rw [show strVals (textsF k s1 6 most).1 ++ [.string (S T.1)] = strVals (textsF (k + 1) s1 6 most).1 by rw [HS.out]; simp [strVals]] at hown3
            rw [show T.2.1 = (textsF (k + 1) s1 6 most).2.1 by rw [HS.out], show T.2.2 = (textsF (k + 1) s1 6 most).2.2 by rw [HS.out]] at HR3
            have HL3 := Lib.hid hown3
            clear hown2 hown3 hg3 hk3 hlt3 HR2 HO2
            go_wp2
            exact ⟨⟨k + 1, hlt, by go_num, HL3, HR3, HO3⟩, by simp [intOf]; omega⟩
          · have hkn : k = n := by omega
            subst hkn
            have hlen := textsF_length k s1 6 most
            generalize textsF k s1 6 most = r at *
            obtain ⟨l2, s2, e2⟩ := r
            simp only at hlen
            subst hlen
            have HR2 := HR.out
            simp only at HR2
            have d2 := HR2.c1
            by_cases h2 : e2 = 0
            · subst h2
              go_wp2
              go_ret
              rw [Hb.out]
              simp only [ne_eq, not_true_eq_false, if_false]
              exact ⟨_, rfl, HL.out, HR2, HO.out⟩
            · have hb2 : (e2 != 0) = true := by simpa using h2
              go_wp2_with (fail)
              refine (fails_any g s2 s e2 e2 _ HR2).mono ?_
              rintro x w3 ⟨rfl, hr3, ho3⟩
              go_wp2
              go_ret
              rw [Hb.out]
              simp only [ne_eq, h2, not_false_eq_true, if_true]
              exact ⟨_, rfl, World.ownsRow_nil .., hr3, HO.out.trans ho3⟩
      · go_wp2_with (fail)
        have Hb : Hid (listF s 0 many most = (if (textsF n s1 0 most).2.2 ≠ 0 then [] else (textsF n s1 0 most).1, if (textsF n s1 0 most).2.2 ≠ 0 then s else (textsF n s1 0 most).2.1, (textsF n s1 0 most).2.2)) := by
          apply Lib.hid
          rw [Hf.out]
          simp only [show ¬ many < (n : Int) by omega, and_false, if_false, Int.toNat_natCast]
        have HR := Lib.hid hr1
        have HO := Lib.hid (ho1)
        go_loopw [9, 33] (fun vl vi wr => ∃ k : Nat, k ≤ n ∧ vi = .int .i64 k ∧ Hid (wr.ownsRow w.heap.size 9 1 vl k (strVals (textsF k s1 0 most).1)) ∧ Hid (IsR g (textsF k s1 0 most).2.1 (textsF k s1 0 most).2.2 wr) ∧ Hid (Only g w wr)) (fun _ vi _ => n - (intOf vi).toNat)
        case atStart => exact ⟨0, Nat.zero_le _, rfl, World.ownsRow_nil .., HR, HO⟩
        case round =>
          obtain ⟨k, hk, rfl, HL, HR, HO⟩ := hrel
          by_cases hlt : k < n
          · go_wp2_with (fail)
            refine (RText_any g _ _ most _ HR.out).mono ?_
            rintro x w2 ⟨rfl, hr2, ho2⟩
            have hown2 := HL.out.kept ho2 (own_ne HL.out hglt)
            have O2 := HO.out.trans ho2
            have hsz2 := O2.size
            generalize hT : textF (textsF k s1 0 most).2.1 (textsF k s1 0 most).2.2 most = T at *
            have HS := Lib.hid (textsF_succ k s1 0 most T hT)
            clear hT
            have HR2 := Lib.hid hr2
            have HO2 := Lib.hid O2
            clear hr2 O2 ho2
            go_wp2_with (at_builtin; refine wpList_append_own _ rfl _ _ 31 rfl w.heap.size 9 i0 (.string ⟨#[]⟩) 1 16 Tryz.underlying31 hi hz0 hz1 hz2 rfl (by decide) _ _ _ rfl (hown2.alloc _) ⟨w2.heap.size, 0, none⟩ 1 1 [.string (S T.1)] rfl rfl (cell_one_new w2 _ _) (by simp [Value.oneCell']) (by unfold maxLen; omega) (by omega) (by simp; omega) ?_; intro v3 w3 hown3 hg3 _)
            have hk3 := own_ne (hown2.alloc (.cells #[.string (S T.1)] 9)) hglt
            have hlt3 := fun k hk => ((hown2.alloc (.cells #[.string (S T.1)] 9)).lt k hk).1
            have HR3 := Lib.hid ((HR2.out.below ((Below.refl _ _).alloc (Nat.le_refl _) (.cells #[.string (S T.1)] 9))).grown hg3 (fun e => by have := hlt3 _ e; omega))
            have HO3 := Lib.hid ((HO2.out.grown (World.grownBy_alloc w2 (.cells #[.string (S T.1)] 9) none) (by simp)).grown hg3 hlt3)
            rw [show strVals (textsF k s1 0 most).1 ++ [.string (S T.1)] = strVals (textsF (k + 1) s1 0 most).1 by rw [HS.out]; simp [strVals]] at hown3
            rw [show T.2.1 = (textsF (k + 1) s1 0 most).2.1 by rw [HS.out], show T.2.2 = (textsF (k + 1) s1 0 most).2.2 by rw [HS.out]] at HR3
            have HL3 := Lib.hid hown3
            clear hown2 hown3 hg3 hk3 hlt3 HR2 HO2
            go_wp2
            exact ⟨⟨k + 1, hlt, by go_num, HL3, HR3, HO3⟩, by simp [intOf]; omega⟩
          · have hkn : k = n := by omega
            subst hkn
            have hlen := textsF_length k s1 0 most
            generalize textsF k s1 0 most = r at *
            obtain ⟨l2, s2, e2⟩ := r
            simp only at hlen
            subst hlen
            have HR2 := HR.out
            simp only at HR2
            have d2 := HR2.c1
            by_cases h2 : e2 = 0
            · subst h2
              go_wp2
              go_ret
              rw [Hb.out]
              simp only [ne_eq, not_true_eq_false, if_false]
              exact ⟨_, rfl, HL.out, HR2, HO.out⟩
            · have hb2 : (e2 != 0) = true := by simpa using h2
              go_wp2_with (fail)
              refine (fails_any g s2 s e2 e2 _ HR2).mono ?_
              rintro x w3 ⟨rfl, hr3, ho3⟩
              go_wp2
              go_ret
              rw [Hb.out]
              simp only [ne_eq, h2, not_false_eq_true, if_true]
              exact ⟨_, rfl, World.ownsRow_nil .., hr3, HO.out.trans ho3⟩
    · have hb : (e1 == 0) = false := by simpa using h0
      go_wp2_with (fail)
      have Hb : Hid (listF s 0 many most = (if (textsF n s1 e1 most).2.2 ≠ 0 then [] else (textsF n s1 e1 most).1, if (textsF n s1 e1 most).2.2 ≠ 0 then s else (textsF n s1 e1 most).2.1, (textsF n s1 e1 most).2.2)) := by
        apply Lib.hid
        rw [Hf.out]
        simp only [h0, false_and, if_false, Int.toNat_natCast]
      have HR := Lib.hid hr1
      have HO := Lib.hid (ho1)
      go_loopw [9, 33] (fun vl vi wr => ∃ k : Nat, k ≤ n ∧ vi = .int .i64 k ∧ Hid (wr.ownsRow w.heap.size 9 1 vl k (strVals (textsF k s1 e1 most).1)) ∧ Hid (IsR g (textsF k s1 e1 most).2.1 (textsF k s1 e1 most).2.2 wr) ∧ Hid (Only g w wr)) (fun _ vi _ => n - (intOf vi).toNat)
      case atStart => exact ⟨0, Nat.zero_le _, rfl, World.ownsRow_nil .., HR, HO⟩
      case round =>
        obtain ⟨k, hk, rfl, HL, HR, HO⟩ := hrel
        by_cases hlt : k < n
        · go_wp2_with (fail)
          refine (RText_any g _ _ most _ HR.out).mono ?_
          rintro x w2 ⟨rfl, hr2, ho2⟩
          have hown2 := HL.out.kept ho2 (own_ne HL.out hglt)
          have O2 := HO.out.trans ho2
          have hsz2 := O2.size
          generalize hT : textF (textsF k s1 e1 most).2.1 (textsF k s1 e1 most).2.2 most = T at *
          have HS := Lib.hid (textsF_succ k s1 e1 most T hT)
          clear hT
          have HR2 := Lib.hid hr2
          have HO2 := Lib.hid O2
          clear hr2 O2 ho2
          go_wp2_with (at_builtin; refine wpList_append_own _ rfl _ _ 31 rfl w.heap.size 9 i0 (.string ⟨#[]⟩) 1 16 Tryz.underlying31 hi hz0 hz1 hz2 rfl (by decide) _ _ _ rfl (hown2.alloc _) ⟨w2.heap.size, 0, none⟩ 1 1 [.string (S T.1)] rfl rfl (cell_one_new w2 _ _) (by simp [Value.oneCell']) (by unfold maxLen; omega) (by omega) (by simp; omega) ?_; intro v3 w3 hown3 hg3 _)
          have hk3 := own_ne (hown2.alloc (.cells #[.string (S T.1)] 9)) hglt
          have hlt3 := fun k hk => ((hown2.alloc (.cells #[.string (S T.1)] 9)).lt k hk).1
          have HR3 := Lib.hid ((HR2.out.below ((Below.refl _ _).alloc (Nat.le_refl _) (.cells #[.string (S T.1)] 9))).grown hg3 (fun e => by have := hlt3 _ e; omega))
          have HO3 := Lib.hid ((HO2.out.grown (World.grownBy_alloc w2 (.cells #[.string (S T.1)] 9) none) (by simp)).grown hg3 hlt3)
          rw [show strVals (textsF k s1 e1 most).1 ++ [.string (S T.1)] = strVals (textsF (k + 1) s1 e1 most).1 by rw [HS.out]; simp [strVals]] at hown3
          rw [show T.2.1 = (textsF (k + 1) s1 e1 most).2.1 by rw [HS.out], show T.2.2 = (textsF (k + 1) s1 e1 most).2.2 by rw [HS.out]] at HR3
          have HL3 := Lib.hid hown3
          clear hown2 hown3 hg3 hk3 hlt3 HR2 HO2
          go_wp2
          exact ⟨⟨k + 1, hlt, by go_num, HL3, HR3, HO3⟩, by simp [intOf]; omega⟩
        · have hkn : k = n := by omega
          subst hkn
          have hlen := textsF_length k s1 e1 most
          generalize textsF k s1 e1 most = r at *
          obtain ⟨l2, s2, e2⟩ := r
          simp only at hlen
          subst hlen
          have HR2 := HR.out
          simp only at HR2
          have d2 := HR2.c1
          by_cases h2 : e2 = 0
          · subst h2
            go_wp2
            go_ret
            rw [Hb.out]
            simp only [ne_eq, not_true_eq_false, if_false]
            exact ⟨_, rfl, HL.out, HR2, HO.out⟩
          · have hb2 : (e2 != 0) = true := by simpa using h2
            go_wp2_with (fail)
            refine (fails_any g s2 s e2 e2 _ HR2).mono ?_
            rintro x w3 ⟨rfl, hr3, ho3⟩
            go_wp2
            go_ret
            rw [Hb.out]
            simp only [ne_eq, h2, not_false_eq_true, if_true]
            exact ⟨_, rfl, World.ownsRow_nil .., hr3, HO.out.trans ho3⟩
  · have hb : (e != 0) = true := by simpa using he
    go_enter Tryz.func132, Tryz.ntmps132
    go_wp2_with (fail)
    refine (Err_any g s e w h).mono ?_
    rintro x w' ⟨rfl, rfl⟩
    go_wp2
    go_ret
    have hf : listF s e many most = ([], s, e) := by rw [listF, if_pos he]
    rw [hf]
    exact ⟨_, rfl, World.ownsRow_nil .., h, Only.refl⟩

set_option maxRecDepth 100000 in
set_option maxHeartbeats 400000 in
theorem RNum_nil (n : Int) (w : World) : Calls Tryz.prog 71 #[.pointer none, .int .i64 n] w fun x w' => x = .returned (.int .i64 0) ∧ w = w' := by
  go_enter Tryz.func71, Tryz.ntmps71
  go_wp2_with (fail)
  refine (Err_nil w).mono ?_
  rintro x w' ⟨rfl, rfl⟩
  go_wp2
  go_ret
  exact ⟨rfl, rfl⟩

set_option maxRecDepth 100000 in
set_option maxHeartbeats 400000 in
theorem Take_nil (n : Int) (w : World) : Calls Tryz.prog 70 #[.pointer none, .int .i64 n] w fun x w' => x = .returned (.string ⟨#[]⟩) ∧ w = w' := by
  go_enter Tryz.func70, Tryz.ntmps70
  go_wp2_with (fail)
  refine (Err_nil w).mono ?_
  rintro x w' ⟨rfl, rfl⟩
  go_wp2
  go_ret
  exact ⟨rfl, rfl⟩

set_option maxRecDepth 100000 in
set_option maxHeartbeats 400000 in
theorem RText_nil (n : Int) (w : World) : Calls Tryz.prog 131 #[.pointer none, .int .i64 n] w fun x w' => x = .returned (.string ⟨#[]⟩) ∧ w = w' := by
  go_enter Tryz.func131, Tryz.ntmps131
  go_wp2_with (fail)
  refine (Err_nil w).mono ?_
  rintro x w' ⟨rfl, rfl⟩
  go_wp2
  go_ret
  exact ⟨rfl, rfl⟩

set_option maxRecDepth 100000 in
set_option maxHeartbeats 400000 in
theorem RList_nil (m n : Int) (w : World) : Calls Tryz.prog 132 #[.pointer none, .int .i64 m, .int .i64 n] w fun x w' => x = .returned (.slice none 0 0) ∧ w = w' := by
  go_enter Tryz.func132, Tryz.ntmps132
  go_wp2_with (fail)
  refine (Err_nil w).mono ?_
  rintro x w' ⟨rfl, rfl⟩
  go_wp2
  go_ret
  exact ⟨rfl, rfl⟩

end Go.Proofs.YtnacjogdndggeaaGreatDoor
end

section
namespace Go.Proofs.YtnacjogdndggeaaGreatDoor
open Go.Shelf Go.RowKit

/-- Does each number fit in its bytes? -/
def wFit (ws : List (Nat × Int)) : Bool := ws.all fun p => fits p.1 p.2
/-- Numbers' bytes, each in so many. -/
def wFlat (ws : List (Nat × Int)) : List UInt8 := ws.flatMap fun p => be p.1 p.2.toNat
def wBytes (ws : List (Nat × Int)) : List UInt8 := if wFit ws = true then wFlat ws else []

theorem num1_good {n : Nat} {x : Int} (h1 : 1 ≤ n) (h7 : n ≤ 7) (h : fits n x = true) : numsE n [x] = 0 ∧ numsB n [x] = be n x.toNat := by
  have := nums_good (n := n) (zs := [x]) h1 h7 (by simpa using h)
  simpa [flatN] using this
theorem num1_bad {n : Nat} {x : Int} (h1 : 1 ≤ n) (h7 : n ≤ 7) (h : ¬ fits n x = true) : numsE n [x] = 2 ∧ numsB n [x] = [] :=
  nums_bad (n := n) (zs := [x]) (k := 0) h1 h7 (by simp) (by simpa using h)

theorem take_w (ws : List (Nat × Int)) (k : Nat) (h : k < ws.length) : ws.take (k + 1) = ws.take k ++ [ws.getD k (0, 0)] := by
  rw [List.take_succ_eq_append_getElem h, List.getD_eq_getElem?_getD, List.getElem?_eq_getElem h]
  rfl

theorem wfit_step {l l' : List (Nat × Int)} {n : Nat} {z : Int} (h : wFit l = true) (ht : l' = l ++ [(n, z)]) (hf : fits n z = true) : wFit l' = true ∧ S (wFlat l') = S (wFlat l ++ be n z.toNat) := by
  subst ht
  unfold wFit at h
  simp [wFit, wFlat, h, hf]

theorem wflat_step {l l' : List (Nat × Int)} {n k : Nat} {z : Int} (ht : l' = l ++ [(n, z)]) (hl : (wFlat l).length ≤ 7 * k) (h7 : n ≤ 7) : (wFlat l').length ≤ 7 * (k + 1) := by
  subst ht
  unfold wFlat at *
  simp at *
  omega

theorem wfit_fails {ws : List (Nat × Int)} {n k : Nat} {z : Int} (ht : ws.take (k + 1) = ws.take k ++ [(n, z)]) (hf : ¬ fits n z = true) : wFit ws = false := by
  rw [← List.take_append_drop (k + 1) ws, ht]
  simp [wFit, hf]

theorem ret_sb {a b : ByteArray} {x y : Bool} (h : a = b) (h' : x = y) : Ending.returned (.tuple #[.string a, .bool x]) = .returned (.tuple #[.string b, .bool y]) := by rw [h, h']

set_option maxRecDepth 100000 in
set_option maxHeartbeats 400000 in
theorem eput_any (b : Nat) (c : Nat) (ws : List (Nat × Int)) (w : World) (hl : ws.length ≤ 4) (hw : ∀ k, k < ws.length → 1 ≤ (ws.getD k (0, 0)).1 ∧ (ws.getD k (0, 0)).1 ≤ 7)
    (hr : ∀ j, j < ws.length → w.cell? ⟨b, j * 2, none⟩ = some (.int .i64 ((ws.getD j (0, 0)).1 : Int)) ∧ w.cell? ⟨b, j * 2 + 1, none⟩ = some (.int .i64 (ws.getD j (0, 0)).2)) :
    Calls Tryz.prog 293 #[.slice (some ⟨b, 0, none⟩) ws.length c] w fun e w' => e = .returned (.tuple #[.string (S (wBytes ws)), .bool (wFit ws)]) ∧ Below w.heap.size w w' := by
  have hR := Lib.hid hr
  have hW := Lib.hid hw
  clear hr hw
  have HB := Lib.hid (Below.refl w.heap.size w)
  go_enter Tryz.func293, Tryz.ntmps293
  go_wp2
  go_loopw [4, 11] (fun vs vi wr => ∃ k : Nat, k ≤ ws.length ∧ vs = .string (S (wFlat (ws.take k))) ∧ vi = .int .i64 k ∧ Hid (Below w.heap.size w wr) ∧ Hid (wFit (ws.take k) = true) ∧ (wFlat (ws.take k)).length ≤ 7 * k) (fun _ vi _ => ws.length - (intOf vi).toNat)
  case atStart => exact ⟨0, Nat.zero_le _, rfl, rfl, HB, rfl, by simp [wFlat]⟩
  case round =>
    obtain ⟨k, hk, rfl, rfl, HB, HF, hL⟩ := hrel
    by_cases hlt : k < ws.length
    · have hc := below_cell HB.out (hR.out k hlt).1 (cell_lt (hR.out k hlt).1)
      have hc2 := below_cell HB.out (hR.out k hlt).2 (cell_lt (hR.out k hlt).2)
      have hw := hW.out k hlt
      have ht := take_w ws k hlt
      generalize ws.getD k (0, 0) = p at *
      obtain ⟨n, z⟩ := p
      simp only at hc hc2 hw
      obtain ⟨w1, w7⟩ := hw
      have Ht := Lib.hid ht
      clear ht
      have HL := Lib.hid (wflat_step Ht.out hL w7)
      by_cases hf : fits n z = true
      · have Hg := Lib.hid (num1_good w1 w7 hf)
        have Hs := Lib.hid (wfit_step HF.out Ht.out hf)
        go_wp2_with (fail)
        refine (Num_any n _ [z] _ (by have := ri_one (wr.alloc (.cells #[.int .i64 n, .int .i64 z] 374)) z; simpa using this) (by simp)).mono ?_
        rintro e w2 ⟨rfl, hb2⟩
        rw [Hg.out.1, Hg.out.2]
        have HB2 := Lib.hid (((HB.out.alloc HB.out.size _).alloc (by have := HB.out.size; simp; omega) _).trans (hb2.mono (by have := HB.out.size; simp; omega)))
        clear hb2
        go_wp2
        exact ⟨⟨k + 1, hlt, by rw [Hs.out.2], by go_num, HB2, Hs.out.1, HL.out⟩, by simp [intOf]; omega⟩
      · have Hg := Lib.hid (num1_bad w1 w7 hf)
        have Hs := Lib.hid (wfit_fails Ht.out hf)
        go_wp2_with (fail)
        refine (Num_any n _ [z] _ (by have := ri_one (wr.alloc (.cells #[.int .i64 n, .int .i64 z] 374)) z; simpa using this) (by simp)).mono ?_
        rintro e w2 ⟨rfl, hb2⟩
        rw [Hg.out.1, Hg.out.2]
        have HB2 := Lib.hid (((HB.out.alloc HB.out.size _).alloc (by have := HB.out.size; simp; omega) _).trans (hb2.mono (by have := HB.out.size; simp; omega)))
        clear hb2
        go_wp2
        go_ret2
        exact ⟨ret_sb (by unfold wBytes; rw [if_neg (by rw [Hs.out]; simp)]; rfl) Hs.out.symm, HB2.out⟩
    · have hkn : k = ws.length := by omega
      subst hkn
      have Hf := Lib.hid (show wFit ws = true by have := HF.out; rwa [List.take_length] at this)
      go_wp2
      go_ret2
      exact ⟨ret_sb (by rw [List.take_length]; unfold wBytes; rw [if_pos Hf.out]) Hf.out.symm, HB.out⟩

def placeW (a b c d : Int) : List (Nat × Int) := [(6, a), (2, b), (5, c), (7, d)]
def linkW (a b c d : Int) : List (Nat × Int) := [(5, a), (6, b), (6, c), (3, d)]
def markW (a b c d : Int) : List (Nat × Int) := [(6, a), (6, b), (6, c), (2, d)]

theorem cell_new2 (w : World) (o : Obj) (cs : Array Value) (e : TypeId) (fr : Nat × Nat) (j : Nat) : ((w.alloc o).alloc (.cells cs e fr)).cell? ⟨w.heap.size + 1, j, none⟩ = cs[j]? := by
  have h := heap_alloc_new (w.alloc o) (.cells cs e fr)
  rw [show (w.alloc o).heap.size = w.heap.size + 1 by simp] at h
  unfold World.cell?
  rw [h]
  rfl

theorem lit_n (ws : List (Nat × Int)) (h : ∀ p, p ∈ ws → 1 ≤ p.1 ∧ p.1 ≤ 7) : ∀ k, k < ws.length → 1 ≤ (ws.getD k (0, 0)).1 ∧ (ws.getD k (0, 0)).1 ≤ 7 := by
  intro k hk
  refine h _ ?_
  rw [List.getD_eq_getElem?_getD, List.getElem?_eq_getElem hk]
  exact List.getElem_mem hk

set_option maxRecDepth 100000 in
set_option maxHeartbeats 400000 in
theorem placePut_any (a b c d : Int) (w : World) :
    Calls Tryz.prog 272 #[.agg #[.int .i64 a, .int .i64 b, .int .i64 c, .int .i64 d]] w fun e w' => e = .returned (.tuple #[.string (S (wBytes (placeW a b c d))), .bool (wFit (placeW a b c d))]) ∧ Below w.heap.size w w' := by
  go_enter Tryz.func272, Tryz.ntmps272
  go_wp2_with (fail)
  refine (eput_any (w.heap.size + 1) 4 (placeW a b c d) _ (by simp [placeW]) (lit_n _ (by simp [placeW])) ?_).mono ?_
  · intro j hj
    refine ⟨(cell_new2 w _ _ _ _ _).trans ?_, (cell_new2 w _ _ _ _ _).trans ?_⟩
    all_goals
      have hj4 : j < 4 := hj
      match j, hj4 with
      | 0, _ => rfl
      | 1, _ => rfl
      | 2, _ => rfl
      | 3, _ => rfl
  · rintro e w2 ⟨rfl, hb2⟩
    have HB := Lib.hid ((((Below.refl w.heap.size w).alloc (Nat.le_refl _) _).alloc (by simp) _).trans (hb2.mono (by simp; omega)))
    clear hb2
    go_wp2
    go_ret2
    exact ⟨rfl, HB.out⟩

set_option maxRecDepth 100000 in
set_option maxHeartbeats 400000 in
theorem markPut_any (a b c d : Int) (w : World) :
    Calls Tryz.prog 296 #[.agg #[.int .i64 a, .int .i64 b, .int .i64 c, .int .i64 d]] w fun e w' => e = .returned (.tuple #[.string (S (wBytes (markW a b c d))), .bool (wFit (markW a b c d))]) ∧ Below w.heap.size w w' := by
  go_enter Tryz.func296, Tryz.ntmps296
  go_wp2_with (fail)
  refine (eput_any (w.heap.size + 1) 4 (markW a b c d) _ (by simp [markW]) (lit_n _ (by simp [markW])) ?_).mono ?_
  · intro j hj
    refine ⟨(cell_new2 w _ _ _ _ _).trans ?_, (cell_new2 w _ _ _ _ _).trans ?_⟩
    all_goals
      have hj4 : j < 4 := hj
      match j, hj4 with
      | 0, _ => rfl
      | 1, _ => rfl
      | 2, _ => rfl
      | 3, _ => rfl
  · rintro e w2 ⟨rfl, hb2⟩
    have HB := Lib.hid ((((Below.refl w.heap.size w).alloc (Nat.le_refl _) _).alloc (by simp) _).trans (hb2.mono (by simp; omega)))
    clear hb2
    go_wp2
    go_ret2
    exact ⟨rfl, HB.out⟩

set_option maxRecDepth 100000 in
set_option maxHeartbeats 400000 in
theorem linkPut_any (a b c d : Int) (w : World) :
    Calls Tryz.prog 276 #[.agg #[.int .i64 a, .int .i64 b, .int .i64 c, .int .i64 d]] w fun e w' => e = .returned (.tuple #[.string (S (wBytes (linkW a b c d))), .bool (wFit (linkW a b c d))]) ∧ Below w.heap.size w w' := by
  go_enter Tryz.func276, Tryz.ntmps276
  go_wp2_with (fail)
  refine (eput_any (w.heap.size + 1) 4 (linkW a b c d) _ (by simp [linkW]) (lit_n _ (by simp [linkW])) ?_).mono ?_
  · intro j hj
    refine ⟨(cell_new2 w _ _ _ _ _).trans ?_, (cell_new2 w _ _ _ _ _).trans ?_⟩
    all_goals
      have hj4 : j < 4 := hj
      match j, hj4 with
      | 0, _ => rfl
      | 1, _ => rfl
      | 2, _ => rfl
      | 3, _ => rfl
  · rintro e w2 ⟨rfl, hb2⟩
    have HB := Lib.hid ((((Below.refl w.heap.size w).alloc (Nat.le_refl _) _).alloc (by simp) _).trans (hb2.mono (by simp; omega)))
    clear hb2
    go_wp2
    go_ret2
    exact ⟨rfl, HB.out⟩

def zeros20 : List UInt8 := List.replicate 20 0
theorem zero_place : wBytes (placeW 0 0 0 0) = zeros20 ∧ wFit (placeW 0 0 0 0) = true := by constructor <;> decide
theorem ownsRow_cast {w : World} {base : Nat} {e : TypeId} {size n : Nat} {v : Value} {xs ys : List Value} (h : w.ownsRow base e size v n xs) (he : xs = ys) : w.ownsRow base e size v n ys := he ▸ h

end Go.Proofs.YtnacjogdndggeaaGreatDoor
end
