/- reveilleref01.Same: are two lists of texts one? -/
import Derived.Test.YtdiebameocbahaaOcH
import Derived.WalkSmall
namespace Go.Proofs.Ytdiebameocbahaa
open Go.Shelf Go.RowKit

/-- A slice value whose elements are these texts, read in the world. -/
def RS (w : World) (v : Value) (l : List (List UInt8)) : Prop := ∃ A c, v = .slice A l.length c ∧ RSa w A l

theorem RSa.below {w w' : World} {A : Option Addr} {l : List (List UInt8)} (h : RSa w A l) (hb : Below w.heap.size w w') : RSa w' A l := by
  intro j hj
  obtain ⟨b, o, hA, hc⟩ := h j hj
  exact ⟨b, o, hA, below_cell hb hc (cell_lt hc)⟩
theorem RS.below {w w' : World} {v : Value} {l : List (List UInt8)} (h : RS w v l) (hb : Below w.heap.size w w') : RS w' v l := by
  obtain ⟨A, c, rfl, h⟩ := h
  exact ⟨A, c, rfl, h.below hb⟩

theorem IsTexts.rs {B : Nat} {v : Value} {l : List (List UInt8)} {w : World} (h : IsTexts B v l w) : RS w v l := by
  have h' := h
  unfold IsTexts at h
  rcases h.2 with ⟨rfl, h0⟩ | ⟨g, cap, cur, rfl, _⟩
  · obtain rfl : l = [] := List.eq_nil_of_length_eq_zero h0
    exact ⟨none, 0, rfl, fun j hj => by simp at hj⟩
  · refine ⟨_, cap, rfl, fun j hj => ⟨g, 0, rfl, ?_⟩⟩
    have hc := h.cells (g := g) rfl j (.string (S (l.getD j []))) (by simp [strVals, List.getElem?_eq_getElem hj, List.getD_eq_getElem?_getD])
    have ha : (⟨g, 0, none⟩ : Addr).add j = ⟨g, 0 + j, none⟩ := by unfold Addr.add; split <;> simp_all
    rwa [ha] at hc

theorem lists_eq {a b : List (List UInt8)} (h : a.length = b.length) (hk : ∀ j, j < a.length → a.getD j [] = b.getD j []) : a = b := by
  refine List.ext_getElem h fun j h1 h2 => ?_
  have := hk j h1
  rwa [List.getD_eq_getElem?_getD, List.getD_eq_getElem?_getD, List.getElem?_eq_getElem h1, List.getElem?_eq_getElem h2] at this

set_option maxRecDepth 100000 in
set_option maxHeartbeats 1000000 in
theorem same_any (va vb : Value) (a b : List (List UInt8)) (w : World) (ha : RS w va a) (hb : RS w vb b) (hm : a.length ≤ maxLen) :
    Calls Try.prog 28 #[va, vb] w fun e w' => e = .returned (.bool (decide (a = b))) ∧ Below w.heap.size w w' := by
  obtain ⟨A, c, rfl, hA⟩ := ha
  obtain ⟨A', c', rfl, hA'⟩ := hb
  unfold maxLen at hm
  by_cases hl : a.length = b.length
  · have HA := Lib.hid hA
    have HA' := Lib.hid hA'
    have HL := Lib.hid hl
    clear hA hA'
    rw [← hl]
    clear hl
    go_enter Try.func28, Try.ntmps28
    go_wp2
    have HB := Lib.hid (Below.refl w.heap.size w)
    have HK : Hid (∀ j, j < 0 → a.getD j [] = b.getD j []) := fun j hj => by omega
    go_loopw [5] (fun vi wr => ∃ k : Nat, k ≤ a.length ∧ vi = .int .i64 k ∧ Hid (∀ j, j < k → a.getD j [] = b.getD j []) ∧ Hid (Below w.heap.size w wr)) (fun vi _ => a.length - (intOf vi).toNat)
    case atStart => exact ⟨0, Nat.zero_le _, rfl, HK, HB⟩
    case round =>
      obtain ⟨k, hk, rfl, HK, HB⟩ := hrel
      by_cases hlt : k < a.length
      · obtain ⟨b1, o1, rfl, hc1⟩ := HA.out k hlt
        obtain ⟨b2, o2, rfl, hc2⟩ := HA'.out k (by rw [← HL.out]; exact hlt)
        have c1 := below_cell HB.out hc1 (cell_lt hc1)
        have c2 := below_cell HB.out hc2 (cell_lt hc2)
        clear hc1 hc2
        by_cases he : a.getD k [] = b.getD k []
        · have HK2 : Hid (∀ j, j < k + 1 → a.getD j [] = b.getD j []) := fun j hj => by
            rcases Nat.lt_succ_iff_lt_or_eq.1 hj with h | rfl
            · exact HK.out j h
            · exact he
          rw [← he] at c2
          generalize a.getD k [] = x at *
          clear he
          go_wp2
          go_quiet (fail)
          go_wp2
          exact ⟨⟨k + 1, hlt, by go_num, HK2, below_drewN HB.out _⟩, by simp [intOf]; omega⟩
        · have hne : ¬ a = b := fun h => he (by rw [h])
          generalize a.getD k [] = x at *
          generalize b.getD k [] = y at *
          have q1 : (x == y) = false := by simpa using he
          have q2 : (x != y) = true := by simpa using he
          clear he
          go_wp2
          go_quiet (fail)
          go_wp2
          go_ret
          exact ⟨ret_bool (by simp [hne]), below_drewN HB.out _⟩
      · have hka : k = a.length := by omega
        subst hka
        have HE := Lib.hid (lists_eq HL.out HK.out)
        go_wp2
        go_ret
        exact ⟨ret_bool (by simp [HE.out]), HB.out⟩
  · have hne : ¬ a = b := fun h => hl (by rw [h])
    have q : ((a.length : Int) != (b.length : Int)) = true := by simp; omega
    go_enter Try.func28, Try.ntmps28
    go_wp2
    go_ret
    exact ⟨ret_bool (by simp [hne]), Below.refl _ _⟩

end Go.Proofs.Ytdiebameocbahaa
