/- The document's answers on texts and lists (reveilleref01): what each comes to, told by the readers' own words. reveilleref01.Same: are two lists of texts one?. octet.Text, octet.List and the document's answers for them: what each comes to. Plain laws: what is written is read; what is cut is too short. -/
import Derived.Test.YtnacjogdndggeaaGreatDoorZ02
import Derived.WalkSmall
section
namespace Go.Proofs.YtnacjogdndggeaaGreatDoor
open Go.Shelf Go.RowKit

/-- The number of the first n bytes; -1: there are too few. -/
def getV (s : List UInt8) (n : Nat) : Int := if s.length < n then -1 else (num (s.take n) : Int)
theorem getV_short {s : List UInt8} {n : Nat} (h : s.length < n) : getV s n = -1 := if_pos h
theorem getV_there {s : List UInt8} {n : Nat} (h : ¬ s.length < n) : getV s n = (num (s.take n) : Int) := if_neg h

theorem add_byte (a b : Nat) (ha : a < 256 ^ 6) (hb : b < 256) : wrap64 (256 * (a : Int) + wrap64 (b : Int)) = ((256 * a + b : Nat) : Int) := by
  rw [IntWalk.wrap64_in (b : Int) (by omega), IntWalk.wrap64_in _ (by omega)]
  omega

theorem textF_short {s : List UInt8} (most : Int) (h : s.length < 2) : textF s 0 most = ([], s, 3) := by
  have h1 : numF s 0 2 = (0, s, 3) := by unfold numF; rw [if_neg (by simp), if_neg (by omega), if_pos (by omega)]
  unfold textF
  rw [if_neg (by simp)]
  simp only [h1]
  simp [takeF]
theorem textF_long {s : List UInt8} {most : Int} (h : ¬ s.length < 2) (hm : most < (num (s.take 2) : Int)) : textF s 0 most = ([], s, 6) := by
  have h1 : numF s 0 2 = ((num (s.take 2) : Int), s.drop 2, 0) := by unfold numF; rw [if_neg (by simp), if_neg (by omega), if_neg (by omega)]; rfl
  unfold textF
  rw [if_neg (by simp)]
  simp only [h1]
  simp [takeF, hm]
theorem textF_cut {s : List UInt8} {most : Int} (h : ¬ s.length < 2) (hm : ¬ most < (num (s.take 2) : Int)) (hl : (s.length : Int) - 2 < (num (s.take 2) : Int)) : textF s 0 most = ([], s, 3) := by
  have h1 : numF s 0 2 = ((num (s.take 2) : Int), s.drop 2, 0) := by unfold numF; rw [if_neg (by simp), if_neg (by omega), if_neg (by omega)]; rfl
  have h2 : takeF (s.drop 2) 0 (num (s.take 2) : Int) = ([], s.drop 2, 3) := by
    unfold takeF; rw [if_neg (by simp), if_neg (by omega), if_pos (by rw [List.length_drop]; omega)]
  unfold textF
  rw [if_neg (by simp)]
  simp only [h1, hm, and_false, if_false, h2]
  simp
theorem textF_there {s : List UInt8} {most : Int} (h : ¬ s.length < 2) (hm : ¬ most < (num (s.take 2) : Int)) (hl : ¬ (s.length : Int) - 2 < (num (s.take 2) : Int)) :
    textF s 0 most = ((s.drop 2).take (num (s.take 2)), (s.drop 2).drop (num (s.take 2)), 0) := by
  have h1 : numF s 0 2 = ((num (s.take 2) : Int), s.drop 2, 0) := by unfold numF; rw [if_neg (by simp), if_neg (by omega), if_neg (by omega)]; rfl
  have h2 : takeF (s.drop 2) 0 (num (s.take 2) : Int) = ((s.drop 2).take (num (s.take 2)), (s.drop 2).drop (num (s.take 2)), 0) := by
    unfold takeF; rw [if_neg (by simp), if_neg (by omega), if_neg (by rw [List.length_drop]; omega), Int.toNat_natCast]
  unfold textF
  rw [if_neg (by simp)]
  simp only [h1, hm, and_false, if_false, h2]
  simp

theorem num2_lt (s : List UInt8) : num (s.take 2) < 65536 := by
  have h1 := num_lt (s.take 2)
  have h2 : 256 ^ (s.take 2).length ≤ 256 ^ 2 := Nat.pow_le_pow_right (by omega) (by rw [List.length_take]; omega)
  omega

/-- What Read answers: the text, how many bytes, the error. -/
def ReadPost (s : List UInt8) (most : Int) (w : World) (x : Ending) (w' : World) : Prop :=
  x = .returned (.tuple #[.string (S (textF s 0 most).1), .int .i64 ((s.length : Int) - (textF s 0 most).2.1.length), .int .i64 (textF s 0 most).2.2]) ∧ w = w'

theorem ret_sii {a b : ByteArray} {x y u v : Int} (h : a = b) (h' : x = y) (h'' : u = v) : Ending.returned (.tuple #[.string a, .int .i64 x, .int .i64 u]) = .returned (.tuple #[.string b, .int .i64 y, .int .i64 v]) := by rw [h, h', h'']

theorem textF_rest (s : List UInt8) (most : Int) : ∃ k, k ≤ s.length ∧ (textF s 0 most).2.1 = s.drop k := by
  by_cases h : s.length < 2
  · exact ⟨0, Nat.zero_le _, by rw [textF_short most h]; rfl⟩
  · by_cases hm : most < (num (s.take 2) : Int)
    · exact ⟨0, Nat.zero_le _, by rw [textF_long h hm]; rfl⟩
    · by_cases hl : (s.length : Int) - 2 < (num (s.take 2) : Int)
      · exact ⟨0, Nat.zero_le _, by rw [textF_cut h hm hl]; rfl⟩
      · exact ⟨2 + num (s.take 2), by omega, by rw [textF_there h hm hl]; simp⟩

theorem textF_err (s : List UInt8) (e most : Int) (h : e ≠ 0) : textF s e most = ([], s, e) := by rw [textF, if_pos h]

/-- The first error stays. -/
theorem textsF_err {i : Nat} {s : List UInt8} {e most : Int} (h : (textsF i s e most).2.2 ≠ 0) : ∀ j, i ≤ j → (textsF j s e most).2.2 = (textsF i s e most).2.2 := by
  intro j hj
  induction j with
  | zero => obtain rfl : i = 0 := by omega
            rfl
  | succ j ih =>
    rcases Nat.eq_or_lt_of_le hj with rfl | hlt
    · rfl
    · have ih' := ih (by omega)
      simp only [textsF]
      rw [textF_err _ _ _ (by rw [ih']; exact h)]
      exact ih'

/-- What Reads answers: the texts, how many bytes, the error. -/
def ReadsPost (s : List UInt8) (many most : Int) (w : World) (x : Ending) (w' : World) : Prop :=
  ∃ v, x = .returned (.tuple #[v, .int .i64 ((s.length : Int) - (listF s 0 many most).2.1.length), .int .i64 (listF s 0 many most).2.2]) ∧ IsTexts w.heap.size v (listF s 0 many most).1 w' ∧ Below w.heap.size w w'

theorem listF_short {s : List UInt8} (many most : Int) (h : s.length < 1) : listF s 0 many most = ([], s, 3) := by
  have h1 : numF s 0 1 = (0, s, 3) := by unfold numF; rw [if_neg (by simp), if_neg (by omega), if_pos (by omega)]
  unfold listF
  rw [if_neg (by simp)]
  simp only [h1]
  simp [textsF]
theorem numF1 {s : List UInt8} (h : ¬ s.length < 1) : numF s 0 1 = ((num (s.take 1) : Int), s.drop 1, 0) := by unfold numF; rw [if_neg (by simp), if_neg (by omega), if_neg (by omega)]; rfl
theorem textsF_bad (k : Nat) (s : List UInt8) (e most : Int) (h : e ≠ 0) : (textsF k s e most).2 = (s, e) := by
  induction k with
  | zero => rfl
  | succ k ih => simp only [textsF]; rw [ih]; rw [textF_err _ _ _ h]
theorem listF_many {s : List UInt8} {many : Int} (most : Int) (h : ¬ s.length < 1) (hm : many < (num (s.take 1) : Int)) : listF s 0 many most = ([], s, 6) := by
  unfold listF
  rw [if_neg (by simp)]
  simp only [numF1 h, hm, and_self, if_true]
  rw [textsF_bad _ _ _ _ (by simp)]
  simp
theorem listF_there {s : List UInt8} {many : Int} (most : Int) (h : ¬ s.length < 1) (hm : ¬ many < (num (s.take 1) : Int)) : listF s 0 many most =
    (if (textsF (num (s.take 1)) (s.drop 1) 0 most).2.2 ≠ 0 then [] else (textsF (num (s.take 1)) (s.drop 1) 0 most).1, if (textsF (num (s.take 1)) (s.drop 1) 0 most).2.2 ≠ 0 then s else (textsF (num (s.take 1)) (s.drop 1) 0 most).2.1, (textsF (num (s.take 1)) (s.drop 1) 0 most).2.2) := by
  unfold listF
  rw [if_neg (by simp)]
  simp only [numF1 h, hm, and_false, if_false, Int.toNat_natCast]

theorem num1_lt (s : List UInt8) : num (s.take 1) < 256 := by
  have h1 := num_lt (s.take 1)
  have h2 : 256 ^ (s.take 1).length ≤ 256 ^ 1 := Nat.pow_le_pow_right (by omega) (by rw [List.length_take]; omega)
  omega

theorem drop_count {l r : List UInt8} {k : Nat} (hk : k ≤ l.length) (h : r = l.drop k) : (l.length : Int) - (r.length : Int) = (k : Int) := by
  subst h
  rw [List.length_drop]
  omega

theorem ret_vii {a b : Value} {x y u v : Int} (h : a = b) (h' : x = y) (h'' : u = v) : Ending.returned (.tuple #[a, .int .i64 x, .int .i64 u]) = .returned (.tuple #[b, .int .i64 y, .int .i64 v]) := by rw [h, h', h'']

end Go.Proofs.YtnacjogdndggeaaGreatDoor
end

section
namespace Go.Proofs.YtnacjogdndggeaaGreatDoor
open Go.Shelf Go.RowKit

/-- A slice value whose elements are these texts, read in the world. -/
def RS (w : World) (v : Value) (l : List (List UInt8)) : Prop := ∃ A c, v = .slice A l.length c ∧ RSa w A l

theorem RSa.below {w w' : World} {A : Option Addr} {l : List (List UInt8)} (h : RSa w A l) (hb : Below w.heap.size w w') : RSa w' A l := by
  intro j hj
  obtain ⟨b, o, hA, hc⟩ := h j hj
  exact ⟨b, o, hA, below_cell hb hc (cell_lt hc)⟩
theorem RS.below {w w' : World} {v : Value} {l : List (List UInt8)} (h : RS w v l) (hb : Below w.heap.size w w') : RS w' v l := by
  obtain ⟨A, c, rfl, h⟩ := h
  exact ⟨A, c, rfl, h.below hb⟩

theorem IsTexts.rs {B : Nat} {v : Value} {l : List (List UInt8)} {w : World} (h : IsTexts B v l w) : RS w v l := by
  have h' := h
  unfold IsTexts at h
  rcases h.2 with ⟨rfl, h0⟩ | ⟨g, cap, cur, rfl, _⟩
  · obtain rfl : l = [] := List.eq_nil_of_length_eq_zero h0
    exact ⟨none, 0, rfl, fun j hj => by simp at hj⟩
  · refine ⟨_, cap, rfl, fun j hj => ⟨g, 0, rfl, ?_⟩⟩
    have hc := h.cells (g := g) rfl j (.string (S (l.getD j []))) (by simp [strVals, List.getElem?_eq_getElem hj, List.getD_eq_getElem?_getD])
    have ha : (⟨g, 0, none⟩ : Addr).add j = ⟨g, 0 + j, none⟩ := by unfold Addr.add; split <;> simp_all
    rwa [ha] at hc

theorem lists_eq {a b : List (List UInt8)} (h : a.length = b.length) (hk : ∀ j, j < a.length → a.getD j [] = b.getD j []) : a = b := by
  refine List.ext_getElem h fun j h1 h2 => ?_
  have := hk j h1
  rwa [List.getD_eq_getElem?_getD, List.getD_eq_getElem?_getD, List.getElem?_eq_getElem h1, List.getElem?_eq_getElem h2] at this

set_option maxRecDepth 100000 in
set_option maxHeartbeats 1000000 in
theorem same_any (va vb : Value) (a b : List (List UInt8)) (w : World) (ha : RS w va a) (hb : RS w vb b) (hm : a.length ≤ maxLen) :
    Calls Tryz.prog 76 #[va, vb] w fun e w' => e = .returned (.bool (decide (a = b))) ∧ Below w.heap.size w w' := by
  obtain ⟨A, c, rfl, hA⟩ := ha
  obtain ⟨A', c', rfl, hA'⟩ := hb
  unfold maxLen at hm
  by_cases hl : a.length = b.length
  · have HA := Lib.hid hA
    have HA' := Lib.hid hA'
    have HL := Lib.hid hl
    clear hA hA'
    rw [← hl]
    clear hl
    go_enter Tryz.func76, Tryz.ntmps76
    go_wp2
    have HB := Lib.hid (Below.refl w.heap.size w)
    have HK : Hid (∀ j, j < 0 → a.getD j [] = b.getD j []) := fun j hj => by omega
    go_loopw [5] (fun vi wr => ∃ k : Nat, k ≤ a.length ∧ vi = .int .i64 k ∧ Hid (∀ j, j < k → a.getD j [] = b.getD j []) ∧ Hid (Below w.heap.size w wr)) (fun vi _ => a.length - (intOf vi).toNat)
    case atStart => exact ⟨0, Nat.zero_le _, rfl, HK, HB⟩
    case round =>
      obtain ⟨k, hk, rfl, HK, HB⟩ := hrel
      by_cases hlt : k < a.length
      · obtain ⟨b1, o1, rfl, hc1⟩ := HA.out k hlt
        obtain ⟨b2, o2, rfl, hc2⟩ := HA'.out k (by rw [← HL.out]; exact hlt)
        have c1 := below_cell HB.out hc1 (cell_lt hc1)
        have c2 := below_cell HB.out hc2 (cell_lt hc2)
        clear hc1 hc2
        by_cases he : a.getD k [] = b.getD k []
        · have HK2 : Hid (∀ j, j < k + 1 → a.getD j [] = b.getD j []) := fun j hj => by
            rcases Nat.lt_succ_iff_lt_or_eq.1 hj with h | rfl
            · exact HK.out j h
            · exact he
          rw [← he] at c2
          generalize a.getD k [] = x at *
          clear he
          go_wp2
          go_quiet (fail)
          go_wp2
          exact ⟨⟨k + 1, hlt, by go_num, HK2, below_drewN HB.out _⟩, by simp [intOf]; omega⟩
        · have hne : ¬ a = b := fun h => he (by rw [h])
          generalize a.getD k [] = x at *
          generalize b.getD k [] = y at *
          have q1 : (x == y) = false := by simpa using he
          have q2 : (x != y) = true := by simpa using he
          clear he
          go_wp2
          go_quiet (fail)
          go_wp2
          go_ret
          exact ⟨ret_bool (by simp [hne]), below_drewN HB.out _⟩
      · have hka : k = a.length := by omega
        subst hka
        have HE := Lib.hid (lists_eq HL.out HK.out)
        go_wp2
        go_ret
        exact ⟨ret_bool (by simp [HE.out]), HB.out⟩
  · have hne : ¬ a = b := fun h => hl (by rw [h])
    have q : ((a.length : Int) != (b.length : Int)) = true := by simp; omega
    go_enter Tryz.func76, Tryz.ntmps76
    go_wp2
    go_ret
    exact ⟨ret_bool (by simp [hne]), Below.refl _ _⟩

end Go.Proofs.YtnacjogdndggeaaGreatDoor
end

section
namespace Go.Proofs.YtnacjogdndggeaaGreatDoor
open Go.Shelf Go.RowKit

/-- A text's bytes; texts' bytes. -/
def textB (s : List UInt8) : List UInt8 := be 2 s.length ++ s
def textsB (l : List (List UInt8)) : List UInt8 := l.flatMap textB
theorem textB_length (s : List UInt8) : (textB s).length = 2 + s.length := by simp [textB]
/-- None is too long. -/
def shortAll (l : List (List UInt8)) : Bool := l.all fun s => decide (s.length ≤ 65535)

theorem textsB_take (l : List (List UInt8)) (k : Nat) (h : k < l.length) : textsB (l.take (k + 1)) = textsB (l.take k) ++ textB (l.getD k []) := by
  unfold textsB
  rw [List.take_succ_eq_append_getElem h, List.flatMap_append, List.getD_eq_getElem?_getD, List.getElem?_eq_getElem h]
  simp

theorem textsB_len (l : List (List UInt8)) (m : Nat) (h : ∀ s, s ∈ l → s.length ≤ m) : (textsB l).length ≤ (2 + m) * l.length := by
  induction l with
  | nil => simp [textsB]
  | cons s l ih =>
    have := ih fun x hx => h x (by simp [hx])
    have h1 := h s (by simp)
    unfold textsB at *
    rw [List.flatMap_cons, List.length_append, textB_length, List.length_cons, Nat.mul_succ]
    omega

theorem short_getD {l : List (List UInt8)} (h : shortAll l = true) {k : Nat} (hk : k < l.length) : (l.getD k []).length ≤ 65535 := by
  rw [List.getD_eq_getElem?_getD, List.getElem?_eq_getElem hk]
  have := List.all_eq_true.1 h _ (List.getElem_mem hk)
  simpa using this

theorem short_take {l : List (List UInt8)} (h : shortAll l = true) (k : Nat) : ∀ s, s ∈ l.take k → s.length ≤ 65535 := by
  intro s hs
  have := List.all_eq_true.1 h s (List.mem_of_mem_take hs)
  simpa using this

theorem long_first {l : List (List UInt8)} (h : ¬ shortAll l = true) : ∃ j, j < l.length ∧ ¬ (l.getD j []).length ≤ 65535 ∧ ∀ i, i < j → (l.getD i []).length ≤ 65535 := by
  induction l with
  | nil => exact absurd rfl h
  | cons s l ih =>
    by_cases hs : s.length ≤ 65535
    · obtain ⟨j, h1, h2, h3⟩ := ih (by intro hl; exact h (by unfold shortAll at *; simp [hs]; simpa using hl))
      refine ⟨j + 1, by simpa using h1, by simpa using h2, fun i hi => ?_⟩
      cases i with
      | zero => simpa using hs
      | succ i => simpa using h3 i (by omega)
    · exact ⟨0, by simp, by simpa using hs, fun i hi => by omega⟩

theorem take_mem_getD {l : List (List UInt8)} {k : Nat} {s : List UInt8} (h : s ∈ l.take k) : ∃ i, i < k ∧ s = l.getD i [] := by
  obtain ⟨i, hi, rfl⟩ := List.getElem_of_mem h
  rw [List.length_take] at hi
  refine ⟨i, by omega, ?_⟩
  rw [List.getElem_take, List.getD_eq_getElem?_getD, List.getElem?_eq_getElem (by omega)]
  rfl

set_option maxRecDepth 100000 in
set_option maxHeartbeats 1000000 in
theorem Text_good (A : Option Addr) (c : Nat) (l : List (List UInt8)) (w : World) (hr : RSa w A l) (hl : l.length ≤ 1000) (hs : shortAll l = true) :
    Calls Tryz.prog 122 #[.slice A l.length c] w fun e w' => e = .returned (.tuple #[.string (S (textsB l)), .int .i64 0]) ∧ Below w.heap.size w w' := by
  have hR := Lib.hid hr
  have HS := Lib.hid hs
  clear hr hs
  go_enter Tryz.func122, Tryz.ntmps122
  go_wp2
  have HB := Lib.hid ((Below.refl w.heap.size w).alloc (Nat.le_refl _) (.cells #[.pointer none, .slice none 0 0] 274))
  have HI := Lib.hid (bFresh w.heap.size w (Nat.le_refl _))
  go_loopw [9] (fun vi wr => ∃ k : Nat, k ≤ l.length ∧ vi = .int .i64 k ∧ Hid (IsB w.heap.size w.heap.size (textsB (l.take k)) wr) ∧ Hid (Below w.heap.size w wr)) (fun vi _ => l.length - (intOf vi).toNat)
  case atStart => exact ⟨0, Nat.zero_le _, rfl, HI, HB⟩
  case round =>
    obtain ⟨k, hk, rfl, HI, HB⟩ := hrel
    by_cases hlt : k < l.length
    · obtain ⟨b, o, rfl, hc⟩ := hR.out k hlt
      have hcell := below_cell HB.out hc (cell_lt hc)
      clear hc
      have hx := short_getD HS.out hlt
      have Ht := Lib.hid (textsB_take l k hlt)
      have hlen := textsB_len (l.take k) 65535 (short_take HS.out k)
      rw [List.length_take] at hlen
      have hlen2 : (textsB (l.take k)).length ≤ 65537000 := by omega
      clear hlen
      generalize l.getD k [] = x at *
      have hB := HB.out.size
      go_wp2_with (fail)
      refine (put_any 2 x.length wr (by omega) (by omega) (by omega)).mono ?_
      rintro e w2 ⟨rfl, hb2⟩
      rw [Int.toNat_natCast]
      have hB2 := hb2.size
      go_wp2_with (fail)
      refine (bWrite w.heap.size w.heap.size _ _ w2 (isB_below HI.out hb2) (by simp; omega) (by omega)).mono ?_
      rintro e w3 ⟨rfl, hi3, hb3⟩
      have HI3 : Hid (IsB w.heap.size w.heap.size (textsB (l.take (k + 1))) w3) := by
        apply Lib.hid
        rw [Ht.out]
        exact hi3
      have HB3 := Lib.hid ((HB.out.trans (hb2.mono hB)).trans hb3)
      clear hi3 hb3
      go_wp2
      exact ⟨⟨k + 1, hlt, by go_num, HI3, HB3⟩, by simp [intOf]; omega⟩
    · have hkn : k = l.length := by omega
      subst hkn
      go_wp2_with (fail)
      refine (bString w.heap.size w.heap.size _ wr HI.out HB.out.size).mono ?_
      rintro e w2 ⟨rfl, hb2⟩
      go_wp2
      go_ret2
      exact ⟨ret_se (by simp) rfl, HB.out.trans hb2⟩

set_option maxRecDepth 100000 in
set_option maxHeartbeats 1000000 in
theorem Text_bad (A : Option Addr) (c : Nat) (l : List (List UInt8)) (w : World) (hr : RSa w A l) (hl : l.length ≤ 1000) (hs : ¬ shortAll l = true) :
    Calls Tryz.prog 122 #[.slice A l.length c] w fun e w' => e = .returned (.tuple #[.string ⟨#[]⟩, .int .i64 6]) ∧ Below w.heap.size w w' := by
  obtain ⟨j, hj, hlong, hshort⟩ := long_first hs
  have hR := Lib.hid hr
  have HJ := Lib.hid hlong
  have HK := Lib.hid hshort
  clear hr hs hlong hshort
  go_enter Tryz.func122, Tryz.ntmps122
  go_wp2
  have HB := Lib.hid ((Below.refl w.heap.size w).alloc (Nat.le_refl _) (.cells #[.pointer none, .slice none 0 0] 274))
  have HI := Lib.hid (bFresh w.heap.size w (Nat.le_refl _))
  go_loopw [9] (fun vi wr => ∃ k : Nat, k ≤ j ∧ vi = .int .i64 k ∧ Hid (IsB w.heap.size w.heap.size (textsB (l.take k)) wr) ∧ Hid (Below w.heap.size w wr)) (fun vi _ => l.length - (intOf vi).toNat)
  case atStart => exact ⟨0, Nat.zero_le _, rfl, HI, HB⟩
  case round =>
    obtain ⟨k, hk, rfl, HI, HB⟩ := hrel
    have hlt : k < l.length := by omega
    obtain ⟨b, o, rfl, hc⟩ := hR.out k hlt
    have hcell := below_cell HB.out hc (cell_lt hc)
    clear hc
    by_cases hx : (l.getD k []).length ≤ 65535
    · have hkj : k ≠ j := by
        rintro rfl
        exact HJ.out hx
      have Ht := Lib.hid (textsB_take l k hlt)
      have hlen := textsB_len (l.take k) 65535 (fun s hs => by
        obtain ⟨i, hi, rfl⟩ := take_mem_getD hs
        exact HK.out i (by omega))
      rw [List.length_take] at hlen
      have hlen2 : (textsB (l.take k)).length ≤ 65537000 := by omega
      clear hlen
      generalize l.getD k [] = x at *
      have hB := HB.out.size
      go_wp2_with (fail)
      refine (put_any 2 x.length wr (by omega) (by omega) (by omega)).mono ?_
      rintro e w2 ⟨rfl, hb2⟩
      rw [Int.toNat_natCast]
      have hB2 := hb2.size
      go_wp2_with (fail)
      refine (bWrite w.heap.size w.heap.size _ _ w2 (isB_below HI.out hb2) (by simp; omega) (by omega)).mono ?_
      rintro e w3 ⟨rfl, hi3, hb3⟩
      have HI3 : Hid (IsB w.heap.size w.heap.size (textsB (l.take (k + 1))) w3) := by
        apply Lib.hid
        rw [Ht.out]
        exact hi3
      have HB3 := Lib.hid ((HB.out.trans (hb2.mono hB)).trans hb3)
      clear hi3 hb3
      go_wp2
      exact ⟨⟨k + 1, by omega, by go_num, HI3, HB3⟩, by simp [intOf]; omega⟩
    · generalize l.getD k [] = x at *
      go_wp2
      go_ret2
      exact ⟨rfl, HB.out⟩

end Go.Proofs.YtnacjogdndggeaaGreatDoor
end

section
namespace Go.Proofs.YtnacjogdndggeaaGreatDoor
open Go.Shelf Go.RowKit

theorem num_be_small (n x : Nat) (h : x < 256 ^ n) : num (be n x) = x := by rw [num_be, Nat.mod_eq_of_lt h]

theorem textF_B (x r : List UInt8) (most : Int) (h : x.length ≤ 65535) (hm : (x.length : Int) ≤ most) : textF (textB x ++ r) 0 most = (x, r, 0) := by
  have hl : (textB x ++ r).length = 2 + x.length + r.length := by rw [List.length_append, textB_length]
  have ht : (textB x ++ r).take 2 = be 2 x.length := by
    unfold textB
    rw [List.append_assoc, List.take_append_of_le_length (by simp), List.take_of_length_le (by simp)]
  have hd : (textB x ++ r).drop 2 = x ++ r := by
    unfold textB
    rw [List.append_assoc, List.drop_append_of_le_length (by simp), List.drop_of_length_le (by simp), List.nil_append]
  have hn : num ((textB x ++ r).take 2) = x.length := by rw [ht]; exact num_be_small 2 _ (by omega)
  rw [textF_there (by omega) (by rw [hn]; omega) (by rw [hn, hl]; omega), hn, hd]
  simp

theorem textF_cutB (x : List UInt8) (m : Nat) (most : Int) (h : x.length ≤ 65535) (hm : (x.length : Int) ≤ most) (hc : m < 2 + x.length) : (textF ((textB x).take m) 0 most).2.2 = 3 := by
  have hl : ((textB x).take m).length = m := by rw [List.length_take, textB_length]; omega
  by_cases h2 : m < 2
  · rw [textF_short _ (by omega)]
  · have ht : ((textB x).take m).take 2 = be 2 x.length := by
      rw [List.take_take, Nat.min_eq_left (by omega)]
      unfold textB
      rw [List.take_append_of_le_length (by simp), List.take_of_length_le (by simp)]
    have hn : num (((textB x).take m).take 2) = x.length := by rw [ht]; exact num_be_small 2 _ (by omega)
    rw [textF_cut (by omega) (by rw [hn]; omega) (by rw [hn, hl]; omega)]

/-- Each has at most so many bytes. -/
def AllLe (l : List (List UInt8)) (m : Nat) : Prop := ∀ s, s ∈ l → s.length ≤ m

theorem textsB_snoc (l : List (List UInt8)) (x : List UInt8) : textsB (l ++ [x]) = textsB l ++ textB x := by simp [textsB]

theorem textsF_B (l : List (List UInt8)) (most : Int) (m : Nat) (hm : m ≤ 65535) (hmm : (m : Int) ≤ most) : AllLe l m → ∀ r, textsF l.length (textsB l ++ r) 0 most = (l, r, 0) := by
  induction l using snoc_ind with
  | h0 => intro _ r; rfl
  | h1 l x ih =>
    intro h r
    have h1 := ih (fun s hs => h s (by simp [hs])) (textB x ++ r)
    have hx := h x (by simp)
    rw [List.length_append, List.length_singleton, textsB_snoc, List.append_assoc]
    simp only [textsF, h1]
    rw [textF_B x r most (by omega) (by omega)]

theorem textsF_cut (l : List (List UInt8)) (most : Int) (m : Nat) (hm : m ≤ 65535) (hmm : (m : Int) ≤ most) : AllLe l m → ∀ n, n < (textsB l).length → (textsF l.length ((textsB l).take n) 0 most).2.2 = 3 := by
  induction l using snoc_ind with
  | h0 => intro _ n hn; simp [textsB] at hn
  | h1 l x ih =>
    intro h n hn
    have hl : AllLe l m := fun s hs => h s (by simp [hs])
    have hx := h x (by simp)
    rw [textsB_snoc, List.length_append, textB_length] at hn
    rw [List.length_append, List.length_singleton, textsB_snoc]
    by_cases h1 : n < (textsB l).length
    · rw [List.take_append_of_le_length (by omega)]
      have he := ih hl n h1
      simp only [textsF]
      rw [textF_err _ _ _ (by rw [he]; decide)]
      exact he
    · obtain ⟨k, rfl⟩ : ∃ k, n = (textsB l).length + k := ⟨n - (textsB l).length, by omega⟩
      rw [List.take_length_add_append]
      have h2 := textsF_B l most m hm hmm hl ((textB x).take k)
      simp only [textsF, h2]
      exact textF_cutB x k most (by omega) (by omega) (by omega)

/-- A list's bytes. -/
def listB (l : List (List UInt8)) : List UInt8 := be 1 l.length ++ textsB l

theorem listB_length (l : List (List UInt8)) : (listB l).length = 1 + (textsB l).length := by simp [listB]

theorem listB_head (l : List (List UInt8)) (r : List UInt8) (h : l.length ≤ 255) : ¬ (listB l ++ r).length < 1 ∧ num ((listB l ++ r).take 1) = l.length ∧ (listB l ++ r).drop 1 = textsB l ++ r := by
  refine ⟨by rw [List.length_append, listB_length]; omega, ?_, ?_⟩
  · unfold listB
    rw [List.append_assoc, List.take_append_of_le_length (by simp), List.take_of_length_le (by simp)]
    exact num_be_small 1 _ (by omega)
  · unfold listB
    rw [List.append_assoc, List.drop_append_of_le_length (by simp), List.drop_of_length_le (by simp), List.nil_append]

theorem listF_B (l : List (List UInt8)) (r : List UInt8) (many most : Int) (m : Nat) (h : l.length ≤ 255) (hk : (l.length : Int) ≤ many) (hm : m ≤ 65535) (hmm : (m : Int) ≤ most) (ha : AllLe l m) :
    listF (listB l ++ r) 0 many most = (l, r, 0) := by
  obtain ⟨h1, h2, h3⟩ := listB_head l r h
  rw [listF_there most h1 (by rw [h2]; omega), h2, h3, textsF_B l most m hm hmm ha r]
  simp

theorem listF_cut (l : List (List UInt8)) (n : Nat) (many most : Int) (m : Nat) (h : l.length ≤ 255) (hk : (l.length : Int) ≤ many) (hm : m ≤ 65535) (hmm : (m : Int) ≤ most) (ha : AllLe l m) (hn : n < (listB l).length) :
    listF ((listB l).take n) 0 many most = ([], (listB l).take n, 3) := by
  rw [listB_length] at hn
  cases n with
  | zero => rw [listF_short _ _ (by simp)]
  | succ k =>
    have hs : (listB l).take (k + 1) = be 1 l.length ++ (textsB l).take k := by
      unfold listB
      rw [show k + 1 = (be 1 l.length).length + k by simp; omega, List.take_length_add_append]
    have h1 : ¬ ((listB l).take (k + 1)).length < 1 := by rw [hs]; simp
    have h2 : num (((listB l).take (k + 1)).take 1) = l.length := by
      rw [hs, List.take_append_of_le_length (by simp), List.take_of_length_le (by simp)]
      exact num_be_small 1 _ (by omega)
    have h3 : ((listB l).take (k + 1)).drop 1 = (textsB l).take k := by
      rw [hs, List.drop_append_of_le_length (by simp), List.drop_of_length_le (by simp), List.nil_append]
    have h4 := textsF_cut l most m hm hmm ha k (by omega)
    rw [listF_there most h1 (by rw [h2]; omega), h2, h3, h4]
    simp

end Go.Proofs.YtnacjogdndggeaaGreatDoor
end
