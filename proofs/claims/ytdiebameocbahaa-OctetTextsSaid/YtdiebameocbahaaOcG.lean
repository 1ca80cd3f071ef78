/- octet.Reader's List. -/
import Derived.Test.YtdiebameocbahaaOcF
namespace Go.Proofs.Ytdiebameocbahaa
open Go.Shelf Go.RowKit

/-- So many texts, one behind the other: the texts, what is left, the error. -/
def textsF : Nat → List UInt8 → Int → Int → List (List UInt8) × List UInt8 × Int
  | 0, s, e, _ => ([], s, e)
  | k + 1, s, e, most =>
    let r := textsF k s e most
    let t := textF r.2.1 r.2.2 most
    (r.1 ++ [t.1], t.2.1, t.2.2)

theorem textsF_length (k : Nat) (s : List UInt8) (e most : Int) : (textsF k s e most).1.length = k := by
  induction k with
  | zero => rfl
  | succ k ih => simp [textsF, ih]

/-- List: the texts, what is left, the error. -/
def listF (s : List UInt8) (e many most : Int) : List (List UInt8) × List UInt8 × Int :=
  if e ≠ 0 then ([], s, e) else
    let a := numF s 0 1
    let r := textsF a.1.toNat a.2.1 (if a.2.2 = 0 ∧ many < a.1 then 6 else a.2.2) most
    (if r.2.2 ≠ 0 then [] else r.1, if r.2.2 ≠ 0 then s else r.2.1, r.2.2)

theorem num1_bound (s : List UInt8) : 0 ≤ (numF s 0 1).1 ∧ (numF s 0 1).1 ≤ 255 := by
  unfold numF
  rw [if_neg (by simp), if_neg (by omega)]
  split
  · simp
  · have := num_lt (s.take (1 : Int).toNat)
    have h1 : (s.take (1 : Int).toNat).length ≤ 1 := by simp; omega
    have h2 : 256 ^ (s.take (1 : Int).toNat).length ≤ 256 ^ 1 := Nat.pow_le_pow_right (by decide) h1
    constructor
    · simp
    · simp only; omega

/-- Texts as cells. -/
def strVals (l : List (List UInt8)) : List Value := l.map fun s => .string (S s)

theorem infoStr : (Try.prog.info? 9).map (fun i => (i.zero, i.size, i.bytes)) = some (some (.string ⟨#[]⟩), 1, 16) := by kernel_rfl

/-- A slice of texts that the call owns, from block B on. -/
def IsTexts (B : Nat) (v : Value) (l : List (List UInt8)) (w : World) : Prop := w.ownsRow B 9 1 v l.length (strVals l)

theorem Only.grown {g : Nat} {w wr w1 : World} {row : Option Nat} (h : Only g w wr) (hg : wr.grownBy w1 row) (hr : ∀ k, row = some k → w.heap.size ≤ k) : Only g w w1 := by
  refine ⟨hg.os.trans h.os, hg.tape.trans h.tape, hg.output.trans h.output, Nat.le_trans h.size hg.size, fun k hk hne => ?_⟩
  rw [hg.block k (Nat.lt_of_lt_of_le hk h.size) (fun e => by have := hr k e.symm; omega)]
  exact h.block k hk hne

theorem IsR.grown {g : Nat} {s : List UInt8} {e : Int} {wr w1 : World} {row : Option Nat} (h : IsR g s e wr) (hg : wr.grownBy w1 row) (hr : row ≠ some g) : IsR g s e w1 := by
  have := h.lt
  unfold IsR at *
  rw [hg.block g this (fun e => hr e.symm)]
  exact h

theorem textsF_succ (k : Nat) (s : List UInt8) (e most : Int) (T : List UInt8 × List UInt8 × Int) (h : textF (textsF k s e most).2.1 (textsF k s e most).2.2 most = T) :
    textsF (k + 1) s e most = ((textsF k s e most).1 ++ [T.1], T.2.1, T.2.2) := by
  simp only [textsF, h]

theorem own_ne {w : World} {base g : Nat} {e : TypeId} {size n : Nat} {v : Value} {xs : List Value} (h : w.ownsRow base e size v n xs) (hg : g < base) : v.ownBlock = none ∨ v.ownBlock ≠ some g := by
  refine .inr (fun he => ?_)
  have := (h.lt g he).1
  omega

/-- What List leaves. -/
def ListPost (g : Nat) (r : List (List UInt8) × List UInt8 × Int) (w : World) (x : Ending) (w' : World) : Prop :=
  ∃ v, x = .returned v ∧ IsTexts w.heap.size v r.1 w' ∧ IsR g r.2.1 r.2.2 w' ∧ Only g w w'

set_option maxRecDepth 100000 in
set_option maxHeartbeats 1000000 in
theorem RList_any (g : Nat) (s : List UInt8) (e many most : Int) (w : World) (h : IsR g s e w) :
    Calls Try.prog 29 #[.pointer (some ⟨g, 0, none⟩), .int .i64 many, .int .i64 most] w (ListPost g (listF s e many most) w) := by
  by_cases he : e = 0
  · subst he
    have c0 := h.c0
    have Hf : Hid (listF s 0 many most = (let a := numF s 0 1
      let r := textsF a.1.toNat a.2.1 (if a.2.2 = 0 ∧ many < a.1 then 6 else a.2.2) most
      (if r.2.2 ≠ 0 then [] else r.1, if r.2.2 ≠ 0 then s else r.2.1, r.2.2))) := by
      apply Lib.hid
      unfold listF
      rw [if_neg (by simp)]
    obtain ⟨i0, hi, hz0, hz1, hz2⟩ := info_parts infoStr
    have hb1 := num1_bound s
    have hglt := h.lt
    go_enter Try.func29, Try.ntmps29
    go_wp2_with (fail)
    refine (Err_any g s 0 w h).mono ?_
    rintro x w' ⟨rfl, rfl⟩
    go_wp2_with (fail)
    refine (RNum_any g s 0 1 w h).mono ?_
    rintro x w1 ⟨rfl, hr1, ho1⟩
    generalize numF s 0 1 = a at *
    obtain ⟨n1, s1, e1⟩ := a
    simp only at *
    obtain ⟨hn0, hn255⟩ := hb1
    obtain ⟨n, rfl⟩ := Int.eq_ofNat_of_zero_le hn0
    have d1 := hr1.c1
    have k1 := hr1.f1
    clear c0
    by_cases h0 : e1 = 0
    · subst h0
      by_cases hm : many < (n : Int)
      · go_wp2_with (fail)
        have Hb : Hid (listF s 0 many most = (if (textsF n s1 6 most).2.2 ≠ 0 then [] else (textsF n s1 6 most).1, if (textsF n s1 6 most).2.2 ≠ 0 then s else (textsF n s1 6 most).2.1, (textsF n s1 6 most).2.2)) := by
          apply Lib.hid
          rw [Hf.out]
          simp only [hm, and_self, if_true, Int.toNat_natCast]
        have HR := Lib.hid (hr1.set1 6)
        have HO := Lib.hid (ho1.set (.int .i64 6) 1)
        go_loopw [9, 33] (fun vl vi wr => ∃ k : Nat, k ≤ n ∧ vi = .int .i64 k ∧ Hid (wr.ownsRow w.heap.size 9 1 vl k (strVals (textsF k s1 6 most).1)) ∧ Hid (IsR g (textsF k s1 6 most).2.1 (textsF k s1 6 most).2.2 wr) ∧ Hid (Only g w wr)) (fun _ vi _ => n - (intOf vi).toNat)
        case atStart => exact ⟨0, Nat.zero_le _, rfl, World.ownsRow_nil .., HR, HO⟩
        case round =>
          obtain ⟨k, hk, rfl, HL, HR, HO⟩ := hrel
          by_cases hlt : k < n
          · go_wp2_with (fail)
            refine (RText_any g _ _ most _ HR.out).mono ?_
            rintro x w2 ⟨rfl, hr2, ho2⟩
            have hown2 := HL.out.kept ho2 (own_ne HL.out hglt)
            have O2 := HO.out.trans ho2
            have hsz2 := O2.size
            generalize hT : textF (textsF k s1 6 most).2.1 (textsF k s1 6 most).2.2 most = T at *
            have HS := Lib.hid (textsF_succ k s1 6 most T hT)
            clear hT
            have HR2 := Lib.hid hr2
            have HO2 := Lib.hid O2
            clear hr2 O2 ho2
            go_wp2_with (at_builtin; refine wpList_append_own _ rfl _ _ 48 rfl w.heap.size 9 i0 (.string ⟨#[]⟩) 1 16 Try.underlying48 hi hz0 hz1 hz2 rfl (by decide) _ _ _ rfl (hown2.alloc _) ⟨w2.heap.size, 0, none⟩ 1 1 [.string (S T.1)] rfl rfl (cell_one_new w2 _ _) (by simp [Value.oneCell']) (by unfold maxLen; omega) (by omega) (by simp; omega) ?_; intro v3 w3 hown3 hg3 _)
            have hk3 := own_ne (hown2.alloc (.cells #[.string (S T.1)] 9)) hglt
            have hlt3 := fun k hk => ((hown2.alloc (.cells #[.string (S T.1)] 9)).lt k hk).1
            have HR3 := Lib.hid ((HR2.out.below ((Below.refl _ _).alloc (Nat.le_refl _) (.cells #[.string (S T.1)] 9))).grown hg3 (fun e => by have := hlt3 _ e; omega))
            have HO3 := Lib.hid ((HO2.out.grown (World.grownBy_alloc w2 (.cells #[.string (S T.1)] 9) none) (by simp)).grown hg3 hlt3)
            rw [show strVals (textsF k s1 6 most).1 ++ [.string (S T.1)] = strVals (textsF (k + 1) s1 6 most).1 by rw [HS.out]; simp [strVals]] at hown3
            rw [show T.2.1 = (textsF (k + 1) s1 6 most).2.1 by rw [HS.out], show T.2.2 = (textsF (k + 1) s1 6 most).2.2 by rw [HS.out]] at HR3
            have HL3 := Lib.hid hown3
            clear hown2 hown3 hg3 hk3 hlt3 HR2 HO2
            go_wp2
            exact ⟨⟨k + 1, hlt, by go_num, HL3, HR3, HO3⟩, by simp [intOf]; omega⟩
          · have hkn : k = n := by omega
            subst hkn
            have hlen := textsF_length k s1 6 most
            generalize textsF k s1 6 most = r at *
            obtain ⟨l2, s2, e2⟩ := r
            simp only at hlen
            subst hlen
            have HR2 := HR.out
            simp only at HR2
            have d2 := HR2.c1
            by_cases h2 : e2 = 0
            · subst h2
              go_wp2
              go_ret
              rw [Hb.out]
              simp only [ne_eq, not_true_eq_false, if_false]
              exact ⟨_, rfl, HL.out, HR2, HO.out⟩
            · have hb2 : (e2 != 0) = true := by simpa using h2
              go_wp2_with (fail)
              refine (fails_any g s2 s e2 e2 _ HR2).mono ?_
              rintro x w3 ⟨rfl, hr3, ho3⟩
              go_wp2
              go_ret
              rw [Hb.out]
              simp only [ne_eq, h2, not_false_eq_true, if_true]
              exact ⟨_, rfl, World.ownsRow_nil .., hr3, HO.out.trans ho3⟩
      · go_wp2_with (fail)
        have Hb : Hid (listF s 0 many most = (if (textsF n s1 0 most).2.2 ≠ 0 then [] else (textsF n s1 0 most).1, if (textsF n s1 0 most).2.2 ≠ 0 then s else (textsF n s1 0 most).2.1, (textsF n s1 0 most).2.2)) := by
          apply Lib.hid
          rw [Hf.out]
          simp only [show ¬ many < (n : Int) by omega, and_false, if_false, Int.toNat_natCast]
        have HR := Lib.hid hr1
        have HO := Lib.hid (ho1)
        go_loopw [9, 33] (fun vl vi wr => ∃ k : Nat, k ≤ n ∧ vi = .int .i64 k ∧ Hid (wr.ownsRow w.heap.size 9 1 vl k (strVals (textsF k s1 0 most).1)) ∧ Hid (IsR g (textsF k s1 0 most).2.1 (textsF k s1 0 most).2.2 wr) ∧ Hid (Only g w wr)) (fun _ vi _ => n - (intOf vi).toNat)
        case atStart => exact ⟨0, Nat.zero_le _, rfl, World.ownsRow_nil .., HR, HO⟩
        case round =>
          obtain ⟨k, hk, rfl, HL, HR, HO⟩ := hrel
          by_cases hlt : k < n
          · go_wp2_with (fail)
            refine (RText_any g _ _ most _ HR.out).mono ?_
            rintro x w2 ⟨rfl, hr2, ho2⟩
            have hown2 := HL.out.kept ho2 (own_ne HL.out hglt)
            have O2 := HO.out.trans ho2
            have hsz2 := O2.size
            generalize hT : textF (textsF k s1 0 most).2.1 (textsF k s1 0 most).2.2 most = T at *
            have HS := Lib.hid (textsF_succ k s1 0 most T hT)
            clear hT
            have HR2 := Lib.hid hr2
            have HO2 := Lib.hid O2
            clear hr2 O2 ho2
            go_wp2_with (at_builtin; refine wpList_append_own _ rfl _ _ 48 rfl w.heap.size 9 i0 (.string ⟨#[]⟩) 1 16 Try.underlying48 hi hz0 hz1 hz2 rfl (by decide) _ _ _ rfl (hown2.alloc _) ⟨w2.heap.size, 0, none⟩ 1 1 [.string (S T.1)] rfl rfl (cell_one_new w2 _ _) (by simp [Value.oneCell']) (by unfold maxLen; omega) (by omega) (by simp; omega) ?_; intro v3 w3 hown3 hg3 _)
            have hk3 := own_ne (hown2.alloc (.cells #[.string (S T.1)] 9)) hglt
            have hlt3 := fun k hk => ((hown2.alloc (.cells #[.string (S T.1)] 9)).lt k hk).1
            have HR3 := Lib.hid ((HR2.out.below ((Below.refl _ _).alloc (Nat.le_refl _) (.cells #[.string (S T.1)] 9))).grown hg3 (fun e => by have := hlt3 _ e; omega))
            have HO3 := Lib.hid ((HO2.out.grown (World.grownBy_alloc w2 (.cells #[.string (S T.1)] 9) none) (by simp)).grown hg3 hlt3)
            rw [show strVals (textsF k s1 0 most).1 ++ [.string (S T.1)] = strVals (textsF (k + 1) s1 0 most).1 by rw [HS.out]; simp [strVals]] at hown3
            rw [show T.2.1 = (textsF (k + 1) s1 0 most).2.1 by rw [HS.out], show T.2.2 = (textsF (k + 1) s1 0 most).2.2 by rw [HS.out]] at HR3
            have HL3 := Lib.hid hown3
            clear hown2 hown3 hg3 hk3 hlt3 HR2 HO2
            go_wp2
            exact ⟨⟨k + 1, hlt, by go_num, HL3, HR3, HO3⟩, by simp [intOf]; omega⟩
          · have hkn : k = n := by omega
            subst hkn
            have hlen := textsF_length k s1 0 most
            generalize textsF k s1 0 most = r at *
            obtain ⟨l2, s2, e2⟩ := r
            simp only at hlen
            subst hlen
            have HR2 := HR.out
            simp only at HR2
            have d2 := HR2.c1
            by_cases h2 : e2 = 0
            · subst h2
              go_wp2
              go_ret
              rw [Hb.out]
              simp only [ne_eq, not_true_eq_false, if_false]
              exact ⟨_, rfl, HL.out, HR2, HO.out⟩
            · have hb2 : (e2 != 0) = true := by simpa using h2
              go_wp2_with (fail)
              refine (fails_any g s2 s e2 e2 _ HR2).mono ?_
              rintro x w3 ⟨rfl, hr3, ho3⟩
              go_wp2
              go_ret
              rw [Hb.out]
              simp only [ne_eq, h2, not_false_eq_true, if_true]
              exact ⟨_, rfl, World.ownsRow_nil .., hr3, HO.out.trans ho3⟩
    · have hb : (e1 == 0) = false := by simpa using h0
      go_wp2_with (fail)
      have Hb : Hid (listF s 0 many most = (if (textsF n s1 e1 most).2.2 ≠ 0 then [] else (textsF n s1 e1 most).1, if (textsF n s1 e1 most).2.2 ≠ 0 then s else (textsF n s1 e1 most).2.1, (textsF n s1 e1 most).2.2)) := by
        apply Lib.hid
        rw [Hf.out]
        simp only [h0, false_and, if_false, Int.toNat_natCast]
      have HR := Lib.hid hr1
      have HO := Lib.hid (ho1)
      go_loopw [9, 33] (fun vl vi wr => ∃ k : Nat, k ≤ n ∧ vi = .int .i64 k ∧ Hid (wr.ownsRow w.heap.size 9 1 vl k (strVals (textsF k s1 e1 most).1)) ∧ Hid (IsR g (textsF k s1 e1 most).2.1 (textsF k s1 e1 most).2.2 wr) ∧ Hid (Only g w wr)) (fun _ vi _ => n - (intOf vi).toNat)
      case atStart => exact ⟨0, Nat.zero_le _, rfl, World.ownsRow_nil .., HR, HO⟩
      case round =>
        obtain ⟨k, hk, rfl, HL, HR, HO⟩ := hrel
        by_cases hlt : k < n
        · go_wp2_with (fail)
          refine (RText_any g _ _ most _ HR.out).mono ?_
          rintro x w2 ⟨rfl, hr2, ho2⟩
          have hown2 := HL.out.kept ho2 (own_ne HL.out hglt)
          have O2 := HO.out.trans ho2
          have hsz2 := O2.size
          generalize hT : textF (textsF k s1 e1 most).2.1 (textsF k s1 e1 most).2.2 most = T at *
          have HS := Lib.hid (textsF_succ k s1 e1 most T hT)
          clear hT
          have HR2 := Lib.hid hr2
          have HO2 := Lib.hid O2
          clear hr2 O2 ho2
          go_wp2_with (at_builtin; refine wpList_append_own _ rfl _ _ 48 rfl w.heap.size 9 i0 (.string ⟨#[]⟩) 1 16 Try.underlying48 hi hz0 hz1 hz2 rfl (by decide) _ _ _ rfl (hown2.alloc _) ⟨w2.heap.size, 0, none⟩ 1 1 [.string (S T.1)] rfl rfl (cell_one_new w2 _ _) (by simp [Value.oneCell']) (by unfold maxLen; omega) (by omega) (by simp; omega) ?_; intro v3 w3 hown3 hg3 _)
          have hk3 := own_ne (hown2.alloc (.cells #[.string (S T.1)] 9)) hglt
          have hlt3 := fun k hk => ((hown2.alloc (.cells #[.string (S T.1)] 9)).lt k hk).1
          have HR3 := Lib.hid ((HR2.out.below ((Below.refl _ _).alloc (Nat.le_refl _) (.cells #[.string (S T.1)] 9))).grown hg3 (fun e => by have := hlt3 _ e; omega))
          have HO3 := Lib.hid ((HO2.out.grown (World.grownBy_alloc w2 (.cells #[.string (S T.1)] 9) none) (by simp)).grown hg3 hlt3)
          rw [show strVals (textsF k s1 e1 most).1 ++ [.string (S T.1)] = strVals (textsF (k + 1) s1 e1 most).1 by rw [HS.out]; simp [strVals]] at hown3
          rw [show T.2.1 = (textsF (k + 1) s1 e1 most).2.1 by rw [HS.out], show T.2.2 = (textsF (k + 1) s1 e1 most).2.2 by rw [HS.out]] at HR3
          have HL3 := Lib.hid hown3
          clear hown2 hown3 hg3 hk3 hlt3 HR2 HO2
          go_wp2
          exact ⟨⟨k + 1, hlt, by go_num, HL3, HR3, HO3⟩, by simp [intOf]; omega⟩
        · have hkn : k = n := by omega
          subst hkn
          have hlen := textsF_length k s1 e1 most
          generalize textsF k s1 e1 most = r at *
          obtain ⟨l2, s2, e2⟩ := r
          simp only at hlen
          subst hlen
          have HR2 := HR.out
          simp only at HR2
          have d2 := HR2.c1
          by_cases h2 : e2 = 0
          · subst h2
            go_wp2
            go_ret
            rw [Hb.out]
            simp only [ne_eq, not_true_eq_false, if_false]
            exact ⟨_, rfl, HL.out, HR2, HO.out⟩
          · have hb2 : (e2 != 0) = true := by simpa using h2
            go_wp2_with (fail)
            refine (fails_any g s2 s e2 e2 _ HR2).mono ?_
            rintro x w3 ⟨rfl, hr3, ho3⟩
            go_wp2
            go_ret
            rw [Hb.out]
            simp only [ne_eq, h2, not_false_eq_true, if_true]
            exact ⟨_, rfl, World.ownsRow_nil .., hr3, HO.out.trans ho3⟩
  · have hb : (e != 0) = true := by simpa using he
    go_enter Try.func29, Try.ntmps29
    go_wp2_with (fail)
    refine (Err_any g s e w h).mono ?_
    rintro x w' ⟨rfl, rfl⟩
    go_wp2
    go_ret
    have hf : listF s e many most = ([], s, e) := by rw [listF, if_pos he]
    rw [hf]
    exact ⟨_, rfl, World.ownsRow_nil .., h, Only.refl⟩

set_option maxRecDepth 100000 in
set_option maxHeartbeats 400000 in
theorem RNum_nil (n : Int) (w : World) : Calls Try.prog 20 #[.pointer none, .int .i64 n] w fun x w' => x = .returned (.int .i64 0) ∧ w = w' := by
  go_enter Try.func20, Try.ntmps20
  go_wp2_with (fail)
  refine (Err_nil w).mono ?_
  rintro x w' ⟨rfl, rfl⟩
  go_wp2
  go_ret
  exact ⟨rfl, rfl⟩

set_option maxRecDepth 100000 in
set_option maxHeartbeats 400000 in
theorem Take_nil (n : Int) (w : World) : Calls Try.prog 30 #[.pointer none, .int .i64 n] w fun x w' => x = .returned (.string ⟨#[]⟩) ∧ w = w' := by
  go_enter Try.func30, Try.ntmps30
  go_wp2_with (fail)
  refine (Err_nil w).mono ?_
  rintro x w' ⟨rfl, rfl⟩
  go_wp2
  go_ret
  exact ⟨rfl, rfl⟩

set_option maxRecDepth 100000 in
set_option maxHeartbeats 400000 in
theorem RText_nil (n : Int) (w : World) : Calls Try.prog 26 #[.pointer none, .int .i64 n] w fun x w' => x = .returned (.string ⟨#[]⟩) ∧ w = w' := by
  go_enter Try.func26, Try.ntmps26
  go_wp2_with (fail)
  refine (Err_nil w).mono ?_
  rintro x w' ⟨rfl, rfl⟩
  go_wp2
  go_ret
  exact ⟨rfl, rfl⟩

set_option maxRecDepth 100000 in
set_option maxHeartbeats 400000 in
theorem RList_nil (m n : Int) (w : World) : Calls Try.prog 29 #[.pointer none, .int .i64 m, .int .i64 n] w fun x w' => x = .returned (.slice none 0 0) ∧ w = w' := by
  go_enter Try.func29, Try.ntmps29
  go_wp2_with (fail)
  refine (Err_nil w).mono ?_
  rintro x w' ⟨rfl, rfl⟩
  go_wp2
  go_ret
  exact ⟨rfl, rfl⟩

end Go.Proofs.Ytdiebameocbahaa
