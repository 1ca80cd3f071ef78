/- append(own, texts...): a slice of texts that the call owns, and another's texts behind it. -/
import Derived.Test.YtdiebameocbahaaOcL
import Derived.Laws.AppendOwnNone
namespace Go.Proofs.Ytdiebameocbahaa
open Go.Shelf Go.RowKit

theorem wp_append_texts {K : Act → World → Prop} {o : Oper} {a : Act} {Q : Exit → Act → World → Prop} {w : World} (s x : Operand)
    (ho : o.op = .call { callee := .builtin .append, args := #[s, x], argTypes := #[48, 48] })
    (base : Nat) (v : Value) (l0 : List (List UInt8)) (hs : a.eval s = v) (hown : IsTexts base v l0 w)
    (A : Option Addr) (c : Nat) (l : List (List UInt8)) (hx : a.eval x = .slice A l.length c) (hr : RSa w A l) (hn : A = none → c = 0)
    (hlen : l0.length + l.length ≤ 1000000) (hbase : base ≤ w.heap.size)
    (h : ∀ v' w', IsTexts base v' (l0 ++ l) w' → w.grownBy w' v.ownBlock → K (a.put o.dst v') w') : o.wp Try.prog a w K Q := by
  obtain ⟨i0, hi, hz0, hz1, hz2⟩ := info_parts infoStr
  cases A with
  | none =>
    have hl : l = [] := by
      cases l with
      | nil => rfl
      | cons y l => obtain ⟨b, o, hA, _⟩ := hr 0 (by simp); cases hA
    subst hl
    rw [hn rfl] at hx
    have hrun := run_append_owned_none (P := Try.prog) (w := w) base 48 o.type 9 i0 1 Try.underlying48 hi v l0.length (strVals l0) hown
    unfold Oper.wp
    simp [execOp, ho, resolve, invoke, builtin, hs, hx, hrun, Result.andThen]
    exact h v w (by rw [List.append_nil]; exact hown) (World.grownBy.refl w _)
  | some ad =>
    refine wp_append_own w s x 48 ho base 9 i0 (.string ⟨#[]⟩) 1 16 Try.underlying48 hi hz0 hz1 hz2 rfl (by decide) v l0.length (strVals l0) hs hown ad l.length c (strVals l) hx (by simp [strVals]) ?_ (by intro u hu; obtain ⟨y, _, rfl⟩ := List.mem_map.1 hu; rfl) (by unfold maxLen; omega) (by omega) hbase ?_
    · intro j u hj
      unfold strVals at hj
      rw [List.getElem?_map] at hj
      cases hlj : l[j]? with
      | none => rw [hlj] at hj; cases hj
      | some y =>
        rw [hlj] at hj
        injection hj with hj
        subst hj
        have hjl : j < l.length := by
          rcases Nat.lt_or_ge j l.length with h' | h'
          · exact h'
          · rw [List.getElem?_eq_none h'] at hlj; cases hlj
        obtain ⟨b, o, hA, hc⟩ := hr j hjl
        injection hA with hA
        subst hA
        rw [List.getD_eq_getElem?_getD, hlj] at hc
        have ha : (⟨b, o, none⟩ : Addr).add j = ⟨b, o + j, none⟩ := by unfold Addr.add; split <;> simp_all
        rw [ha]
        exact hc
    · intro v' w' h1 h2 _
      refine h v' w' ?_ h2
      unfold IsTexts
      rw [List.length_append]
      simpa [strVals] using h1

theorem append_texts {ops : Array Oper} {rest : List Oper} {o : Oper} {a : Act} {Q : Exit → Act → World → Prop} {w : World} (hgd : o.guard = none) (s x : Operand)
    (ho : o.op = .call { callee := .builtin .append, args := #[s, x], argTypes := #[48, 48] })
    (base : Nat) (v : Value) (l0 : List (List UInt8)) (hs : a.eval s = v) (hown : IsTexts base v l0 w)
    (A : Option Addr) (c : Nat) (l : List (List UInt8)) (hx : a.eval x = .slice A l.length c) (hr : RSa w A l) (hn : A = none → c = 0)
    (hlen : l0.length + l.length ≤ 1000000) (hbase : base ≤ w.heap.size)
    (h : ∀ v' w', IsTexts base v' (l0 ++ l) w' → w.grownBy w' v.ownBlock → wpList Try.prog ops Q rest (a.put o.dst v') w') : wpList Try.prog ops Q (o :: rest) a w :=
  wpList_plain hgd fun _ hK => wp_append_texts s x ho base v l0 hs hown A c l hx hr hn hlen hbase fun v' w' h1 h2 => hK _ _ (h v' w' h1 h2)

end Go.Proofs.Ytdiebameocbahaa
