/- What a law's row wants beside its walk: how an aggregate of whole numbers is opened. -/
import Derived.Test.YtdiebameocbahaaOcC
import Derived.ProofKit
import Derived.OpenShut
import Derived.ShutString
import Derived.ChangeOld
import Derived.Below
import Derived.SliceStrings
namespace Go.Proofs.Ytdiebameocbahaa
open Go.ChangeShapes Go.WideShapes Go.ChangeAt Go.RowKit

theorem own : ownKnob Try.prog.godebug = none := by kernel_rfl
theorem laidOut : laidOutB Try.prog = true := by kernel_rfl

theorem cell_int {W : World} {r : Reach} {base : Nat} {v : Value} (h : Cell.okWide Try.prog W r base 3 v) : ∃ m, v = .int .i64 m ∧ (Lit.int .i64 m).wf = true := by
  have h2 : Value.okWide Try.prog W r base 3 v := by
    simp only [Value.okWide, Try.underlying3]
    exact h
  obtain ⟨m, rfl⟩ := okWide_int Try.underlying3 h2
  refine ⟨m, rfl, ?_⟩
  simp only [Cell.okWide, Try.underlying3, Cell.ok] at h
  simp only [Lit.wf, Bool.and_eq_true, decide_eq_true_eq]
  exact h.2

theorem cells_ints {W : World} {r : Reach} {base : Nat} {cs : Array Value} {n : Nat} (hsz : cs.size = n)
    (h3 : ∀ i v, cs[i]? = some v → ∃ u, (List.replicate n 3)[i % (List.replicate n 3).length]? = some u ∧ Cell.okWide Try.prog W r base u v) :
    ∃ xs : List Int, xs.length = n ∧ cs = (xs.map (Value.int .i64)).toArray ∧ ∀ x, x ∈ xs → (Lit.int .i64 x).wf = true := by
  have key : ∀ v, v ∈ cs.toList → ∃ m, v = .int .i64 m ∧ (Lit.int .i64 m).wf = true := by
    intro v hv
    obtain ⟨i, hi, rfl⟩ := List.getElem_of_mem hv
    obtain ⟨u, hu, hc⟩ := h3 i cs.toList[i] (by simp at hi; simp [hi])
    rw [List.getElem?_replicate] at hu
    split at hu
    · injection hu with hu; subst hu; exact cell_int hc
    · cases hu
  have key2 : ∀ l : List Value, (∀ v, v ∈ l → ∃ m, v = .int .i64 m ∧ (Lit.int .i64 m).wf = true) → ∃ xs : List Int, xs.length = l.length ∧ l = xs.map (Value.int .i64) ∧ ∀ x, x ∈ xs → (Lit.int .i64 x).wf = true := by
    intro l
    induction l with
    | nil => intro _; exact ⟨[], rfl, rfl, by simp⟩
    | cons v l ih =>
      intro h
      obtain ⟨m, rfl, hm⟩ := h v (by simp)
      obtain ⟨xs, h1, h2, h3⟩ := ih (fun v hv => h v (by simp [hv]))
      exact ⟨m :: xs, by simp [h1], by simp [h2], fun x hx => (List.mem_cons.1 hx).elim (fun e => e ▸ hm) (fun e => h3 x e)⟩
  obtain ⟨xs, h1, h2, h4⟩ := key2 cs.toList key
  exact ⟨xs, by rw [h1]; simpa using hsz, by rw [← h2], h4⟩

/-- An aggregate all of whose cells are whole numbers of kind int. -/
theorem open_nums {W : World} {r : Reach} {base : Nat} {t : TypeId} {v : Value} {n : Nat}
    (hv : Value.okWide Try.prog W r base t v) (ht : (match Try.prog.underlying t with | some (.struct _) | some (.array _ _) => true | _ => false) = true)
    (hts : Try.prog.cellTypes Try.prog.depth t = some (List.replicate n 3)) (hC : Try.prog.cellsOf t = n) :
    ∃ xs : List Int, xs.length = n ∧ v = .agg (xs.map (Value.int .i64)).toArray ∧ ∀ x, x ∈ xs → (Lit.int .i64 x).wf = true := by
  unfold Value.okWide at hv
  split at hv
  · obtain ⟨cs, rfl, hsz, ts, h1, _, h3⟩ := hv
    rw [hts] at h1
    injection h1 with h1
    subst h1
    obtain ⟨xs, h1, h2, h4⟩ := cells_ints (hsz.trans hC) h3
    exact ⟨xs, h1, by rw [h2], h4⟩
  · obtain ⟨cs, rfl, hsz, ts, h1, _, h3⟩ := hv
    rw [hts] at h1
    injection h1 with h1
    subst h1
    obtain ⟨xs, h1, h2, h4⟩ := cells_ints (hsz.trans hC) h3
    exact ⟨xs, h1, by rw [h2], h4⟩
  · rename_i h1 h2
    split at ht
    · rename_i he; exact absurd he (h1 _)
    · rename_i he; exact absurd he (h2 _ _)
    · cases ht

theorem row_cell {W : World} {x : Addr} {j : Nat} {u v : Value} (h0 : W.cell? (x.add 0) = some u) (h : W.cell? (x.add j) = some v) : ∃ b o, x = ⟨b, o, none⟩ ∧ W.cell? ⟨b, o + j, none⟩ = some v := by
  obtain ⟨b, off, spot⟩ := x
  have hspot : spot = none := by simpa [Addr.add] using World.cell?_spot h0
  subst hspot
  refine ⟨b, off, rfl, ?_⟩
  have ha : (⟨b, off, none⟩ : Addr).add j = ⟨b, off + j, none⟩ := by unfold Addr.add; split <;> simp_all
  rwa [ha] at h

theorem getD_take {α : Type} {l : List α} {n j : Nat} (d : α) (h : j < (l.take n).length) : (l.take n).getD j d = l.getD j d := by
  rw [List.getD_eq_getElem?_getD, List.getD_eq_getElem?_getD, List.getElem?_take]
  rw [if_pos (by rw [List.length_take] at h; omega)]

theorem open_RIa {W : World} {H : Type} {enc : TypeId × Value → H} {a : Option Addr} {len cap : Nat} {d : DataW H} {p : List MemPlace} (h : DataW.Trod enc Try.prog W 0 (fun _ => true) true 32 (.slice a len cap) d p) :
    ∃ zs : List Int, zs.length = len ∧ RIa W a zs ∧ ∀ n, n ∈ zs → (Lit.int .i64 n).wf = true := by
  obtain ⟨fuel, hf⟩ := h
  rcases open_ints Try.underlying32 Try.underlying3 (by kernel_rfl) hf with ⟨hcs, _⟩ | ⟨x, l, c, zs, hcs, _, hl, hm, hz, _, hcell, hwz⟩
  · simp [Value.cells] at hcs
    obtain ⟨rfl, rfl, rfl⟩ := hcs
    exact ⟨[], rfl, fun j hj => by simp at hj, by simp⟩
  · simp [Value.cells] at hcs
    obtain ⟨rfl, rfl, rfl⟩ := hcs
    have hz' : zs.length = cap := by simpa using hz
    refine ⟨zs.take len, by simp; omega, fun j hj => ?_, fun n hn => hwz n (List.mem_of_mem_take hn)⟩
    obtain ⟨b, o, rfl, hc⟩ := row_cell (hcell 0 (by rw [List.length_take] at hj; omega)) (hcell j (by rw [List.length_take] at hj; omega))
    exact ⟨b, o, rfl, by rw [getD_take 0 hj]; exact hc⟩

theorem S_getD (ss : List ByteArray) (j : Nat) : S ((ss.map fun s => s.data.toList).getD j []) = ss.getD j ByteArray.empty := by
  rw [List.getD_eq_getElem?_getD, List.getD_eq_getElem?_getD, List.getElem?_map]
  cases ss[j]? with
  | none => rfl
  | some s => rfl

theorem open_RSa {W : World} {H : Type} {enc : TypeId × Value → H} {a : Option Addr} {len cap : Nat} {d : DataW H} {p : List MemPlace} (h : DataW.Trod enc Try.prog W 0 (fun _ => true) true 48 (.slice a len cap) d p) :
    ∃ ts : List (List UInt8), ts.length = len ∧ RSa W a ts := by
  obtain ⟨fuel, hf⟩ := h
  rcases open_strings Try.underlying48 Try.underlying9 (by kernel_rfl) hf with ⟨hcs, _⟩ | ⟨x, l, c, ss, hcs, _, hl, hm, hz, _, hcell, hwz⟩
  · simp [Value.cells] at hcs
    obtain ⟨rfl, rfl, rfl⟩ := hcs
    exact ⟨[], rfl, fun j hj => by simp at hj⟩
  · simp [Value.cells] at hcs
    obtain ⟨rfl, rfl, rfl⟩ := hcs
    have hz' : ss.length = cap := by simpa using hz
    refine ⟨(ss.take len).map fun s => s.data.toList, by simp; omega, fun j hj => ?_⟩
    rw [List.length_map] at hj
    obtain ⟨b, o, rfl, hc⟩ := row_cell (hcell 0 (by rw [List.length_take] at hj; omega)) (hcell j (by rw [List.length_take] at hj; omega))
    exact ⟨b, o, rfl, by rw [S_getD, getD_take ByteArray.empty hj]; exact hc⟩

theorem open_RUa {W : World} {H : Type} {enc : TypeId × Value → H} {a : Option Addr} {len cap : Nat} {d : DataW H} {p : List MemPlace} (h : DataW.Trod enc Try.prog W 0 (fun _ => true) true 71 (.slice a len cap) d p) :
    ∃ zs : List Int, zs.length = len ∧ RUa W a zs ∧ ∀ n, n ∈ zs → (Lit.int .u16 n).wf = true := by
  obtain ⟨fuel, hf⟩ := h
  rcases open_ints Try.underlying71 Try.underlying72 (by kernel_rfl) hf with ⟨hcs, _⟩ | ⟨x, l, c, zs, hcs, _, hl, hm, hz, _, hcell, hwz⟩
  · simp [Value.cells] at hcs
    obtain ⟨rfl, rfl, rfl⟩ := hcs
    exact ⟨[], rfl, fun j hj => by simp at hj, by simp⟩
  · simp [Value.cells] at hcs
    obtain ⟨rfl, rfl, rfl⟩ := hcs
    have hz' : zs.length = cap := by simpa using hz
    refine ⟨zs.take len, by simp; omega, fun j hj => ?_, fun n hn => hwz n (List.mem_of_mem_take hn)⟩
    obtain ⟨b, o, rfl, hc⟩ := row_cell (hcell 0 (by rw [List.length_take] at hj; omega)) (hcell j (by rw [List.length_take] at hj; omega))
    exact ⟨b, o, rfl, by rw [getD_take 0 hj]; exact hc⟩

theorem list8 {xs : List Int} (h : xs.length = 8) : ∃ a b c d e f g i, xs = [a, b, c, d, e, f, g, i] := by
  match xs, h with
  | [a, b, c, d, e, f, g, i], _ => exact ⟨a, b, c, d, e, f, g, i, rfl⟩
theorem list4 {xs : List Int} (h : xs.length = 4) : ∃ a b c d, xs = [a, b, c, d] := by
  match xs, h with
  | [a, b, c, d], _ => exact ⟨a, b, c, d, rfl⟩

theorem u16_wf {n : Int} (h : (Lit.int .u16 n).wf = true) : 0 ≤ n ∧ n ≤ 65535 := by
  simpa [Lit.wf, IntKind.min, IntKind.max, IntKind.signed, IntKind.bits] using h

/-- A nil slice has no room. -/
theorem open_nil {W : World} {H : Type} {enc : TypeId × Value → H} {len cap : Nat} {d : DataW H} {p : List MemPlace} (h : DataW.Trod enc Try.prog W 0 (fun _ => true) true 48 (.slice none len cap) d p) : cap = 0 := by
  obtain ⟨fuel, hf⟩ := h
  rcases open_strings Try.underlying48 Try.underlying9 (by kernel_rfl) hf with ⟨hcs, _⟩ | ⟨x, l, c, ss, hcs, _⟩
  · simp [Value.cells] at hcs
    exact hcs.2
  · simp [Value.cells] at hcs

end Go.Proofs.Ytdiebameocbahaa
