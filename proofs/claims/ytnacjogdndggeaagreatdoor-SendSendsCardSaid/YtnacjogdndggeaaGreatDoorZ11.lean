/- Plain facts on a text that is saved whole. Layers 13, 14, 17, 21 in memory: topics, offsets, what is pending, the store's own block. Layer 17 (pend): New. Layer 17 (pend): State. -/
import Derived.Test.YtnacjogdndggeaaGreatDoorZ10
import Derived.WalkArith
section
namespace Go.Proofs.YtnacjogdndggeaaGreatDoor
open Go.Lib

def newL : List UInt8 := [46, 110, 101, 119]
namespace Dsk
/-- A text saved under a name. -/
def save (D : Dsk) (n : List UInt8) (x : List UInt8) : Dsk := ((((D.create (n ++ newL)).write (n ++ newL) 0 x).sync [n ++ newL]).rename (n ++ newL) n)
theorem next_ne (n : List UInt8) : n ++ newL ≠ n := fun e => by
  have := congrArg List.length e
  simp [newL] at this
section
variable {D : Dsk} {n x : List UInt8}
theorem save1 : (D.create (n ++ newL)).file (n ++ newL) = some ⟨[], []⟩ := by rw [file_create, if_pos rfl]
theorem save2 (m : List UInt8) : ((D.create (n ++ newL)).write (n ++ newL) 0 x).file m = if m = n ++ newL then some ⟨[], x⟩ else D.file m := by
  rw [file_write save1, file_create]
  have : lay [] 0 x = x := lay_end [] x
  split
  · rw [this]
  · rfl
theorem save3 (m : List UInt8) : (((D.create (n ++ newL)).write (n ++ newL) 0 x).sync [n ++ newL]).file m = if m = n ++ newL then some ⟨x, x⟩ else D.file m := by
  show (((D.create (n ++ newL)).write (n ++ newL) 0 x).last1 (n ++ newL)).file m = _
  rw [file_last1 (f := ⟨[], x⟩) (by rw [save2, if_pos rfl]), save2]
  split <;> rfl
theorem file_save (m : List UInt8) : (D.save n x).file m = if m = n ++ newL then none else if m = n then some ⟨x, x⟩ else D.file m := by
  unfold save
  rw [file_rename (f := ⟨x, x⟩) (by rw [save3, if_pos rfl]) (next_ne n), save3]
  split
  · rfl
  · rfl
theorem cap_save : (D.save n x).cap = D.cap := by
  unfold save
  rw [cap_rename, cap_sync, cap_write, cap_create]
theorem Ok.save (h : D.Ok) : (D.save n x).Ok := (((h.create _).write _ _ _).sync _).rename _ _
theorem size_save (h : D.Ok) (hn : D.file (n ++ newL) = none) : (D.save n x).size + ((D.file n).map fun f => f.now.length).getD 0 = D.size + x.length := by
  have h1 := (h.create (n ++ newL)).write (n ++ newL) 0 x
  have h2 := h1.sync [n ++ newL]
  have e1 := size_create h hn
  have e2 := size_write (h.create (n ++ newL)) (k := 0) (s := x) save1 (Nat.zero_le _)
  have e3 := size_sync [n ++ newL] _ h1
  have e4 := size_rename h2 (a := n ++ newL) (b := n) (f := ⟨x, x⟩) (by rw [save3, if_pos rfl]) (next_ne n)
  rw [save3, if_neg (next_ne n).symm] at e4
  unfold save
  simp at e2
  omega
theorem waits_save (hx : x ≠ []) (hq : ∀ q ∈ D.waits, q.name ≠ n ++ newL ∧ q.name ≠ n) : (D.save n x).waits = D.waits := by
  have e1 : ((D.create (n ++ newL)).write (n ++ newL) 0 x).waits = D.waits ++ [⟨n ++ newL, 0, x⟩] := waits_write save1 hx
  have e2 : (((D.create (n ++ newL)).write (n ++ newL) 0 x).sync [n ++ newL]).waits = D.waits := by
    show (((D.create (n ++ newL)).write (n ++ newL) 0 x).last1 (n ++ newL)).waits = _
    rw [waits_last1 (f := ⟨[], x⟩) (by rw [save2, if_pos rfl]), e1, List.filter_append]
    rw [List.filter_eq_self.2 fun q h => by simp [(hq q h).1]]
    simp
  unfold save rename
  rw [if_neg (next_ne n)]
  have e3 : ((((D.create (n ++ newL)).write (n ++ newL) 0 x).sync [n ++ newL]).drop1 n).file (n ++ newL) = some ⟨x, x⟩ := by
    rw [file_drop1, if_neg (next_ne n), save3, if_pos rfl]
  rw [e3]
  show List.map _ (List.filter _ (((D.create (n ++ newL)).write (n ++ newL) 0 x).sync [n ++ newL]).waits) = _
  rw [e2, List.filter_eq_self.2 fun q h => by simp [(hq q h).2]]
  conv => rhs; rw [← List.map_id D.waits]
  apply List.map_congr_left
  intro q h
  unfold moved
  rw [if_neg (hq q h).1]
  rfl
end
end Dsk

end Go.Proofs.YtnacjogdndggeaaGreatDoor
end

section
namespace Go.Proofs.YtnacjogdndggeaaGreatDoor
open Go.Shelf Go.RowKit Go.Lib

/-- Topics: their names, and how many queues each has. -/
abbrev Tops := List (List UInt8 × Nat)
def topV (t : List UInt8 × Nat) : List Value := [.string (S t.1), .int .i64 (t.2 : Int)]
structure TopsAt (χ : Col) (c : Nat) (w : World) (p d : Nat) (L : Tops) (tv : Value) : Prop where
  own : CBlk χ c w p #[.pointer (some ⟨d, 0, none⟩), tv] 124
  row : w.ownsRow 0 122 2 tv L.length (L.flatMap topV)
  crow : ∀ g, tv.ownBlock = some g → χ g = c
def IsTops (χ : Col) (c : Nat) (w : World) (p d : Nat) (L : Tops) : Prop := ∃ tv, TopsAt χ c w p d L tv

/-- How a scheduled record's element reads: its state and when it is due. -/
def RoL : List Value → Option (DataW Unit × List MemPlace)
  | [.int .i64 s, .int .i64 d] => some (.agg [.lit (.int .i64 s), .lit (.int .i64 d)], [])
  | _ => none
def Ro : Value → Option (DataW Unit × List MemPlace)
  | .agg cs => RoL cs.toList
  | _ => none
theorem Ro_inv {v : Value} {y : DataW Unit × List MemPlace} (h : Ro v = some y) : ∃ s d, v = .agg #[.int .i64 s, .int .i64 d] ∧ y = (.agg [.lit (.int .i64 s), .lit (.int .i64 d)], []) := by
  unfold Ro at h
  split at h
  · rename_i cs
    unfold RoL at h
    split at h
    · rename_i s d e
      refine ⟨s, d, ?_, by injection h with h; exact h.symm⟩
      congr 1
      apply Array.ext'
      exact e
    · cases h
  · cases h
abbrev Pends := List (Int × (Int × Int))
def pendD (L : Pends) : DataW Unit := amap (Lit.int .i64) (fun _ a => .agg [.lit (.int .i64 a.1), .lit (.int .i64 a.2)]) L
structure PendAt (χ : Col) (c : Nat) (w : World) (p : Nat) (L : Pends) (m : Nat) : Prop where
  own : CBlk χ c w p #[.map (some m)] 109
  map : w.ownsMap Tryz.prog 3 Ro m L.length (pendD L)
  cmap : χ m = c
def IsPend (χ : Col) (c : Nat) (w : World) (p : Nat) (L : Pends) : Prop := ∃ m, PendAt χ c w p L m

/-- Where a store's parts lie. -/
structure SAddr where
  tp : Nat
  qs : Nat
  ix : Nat
  tb : Nat
  gr : Nat
  tm : Nat
  pd : Nat
  ds : Nat
  en : Nat
  dq : Nat
  mn : Nat
def ptr (b : Nat) : Value := .pointer (some ⟨b, 0, none⟩)
def storeV (a : SAddr) (now : Int) : Array Value := #[ptr a.tp, ptr a.qs, ptr a.ix, ptr a.tb, ptr a.gr, ptr a.tm, ptr a.pd, ptr a.ds, ptr a.en, ptr a.dq, ptr a.mn, .int .i64 now]

section
variable {C : Nat → Prop} {χ χ' : Col} {c p d : Nat} {w w' : World}
theorem IsTops.stp {L : Tops} (h : IsTops χ c w p d L) (s : Stp C χ w χ' w') (hc : ¬ C c) : IsTops χ' c w' p d L := by
  obtain ⟨tv, h⟩ := h
  exact ⟨tv, h.own.stp s hc, ownsRow_stp h.row s fun g hg => by rw [h.crow g hg]; exact hc, fun g hg => (s.col _ (h.row.lt g hg).2).trans (h.crow g hg)⟩
theorem IsPend.stp {L : Pends} (h : IsPend χ c w p L) (s : Stp C χ w χ' w') (hc : ¬ C c) : IsPend χ' c w' p L := by
  obtain ⟨m, h⟩ := h
  exact ⟨m, h.own.stp s hc, ownsMap_stp h.map s (by rw [h.cmap]; exact hc), (s.col _ h.map.lt).trans h.cmap⟩
end

end Go.Proofs.YtnacjogdndggeaaGreatDoor
end

section
namespace Go.Proofs.YtnacjogdndggeaaGreatDoor
open Go.Shelf Go.RowKit Go.Lib
set_option maxRecDepth 100000
set_option maxHeartbeats 1000000

theorem pendNew_any {χ : Col} (c : Nat) (w : World) :
    Calls Tryz.prog 53 #[] w fun e w' => ∃ p χ', e = .returned (.pointer (some ⟨p, 0, none⟩)) ∧ Stp (fun _ => False) χ w χ' w' ∧ IsPend χ' c w' p [] := by
  have hmm := @run_makeMap Tryz.prog
  go_enter Tryz.func53, Tryz.ntmps53
  go_wp2
  go_ret
  have hs : (w.alloc (.map #[] 0)).heap.size = w.heap.size + 1 := by simp
  have hb := Blk.new (w.alloc (.map #[] 0)) #[.map (some w.heap.size)] 109
  rw [hs] at hb
  have hB := ((Below.refl w.heap.size w).alloc (Nat.le_refl _) (.map #[] 0)).alloc (by simp) (.cells #[.map (some w.heap.size)] 109)
  exact ⟨w.heap.size + 1, paint χ w.heap.size c, rfl, (Stp.of_below hB).paint (Nat.le_refl _) c, w.heap.size, ⟨hb, paint_new (by omega)⟩, (World.ownsMap_made w Tryz.prog 3 Ro).alloc _, paint_new (Nat.le_refl _)⟩

end Go.Proofs.YtnacjogdndggeaaGreatDoor
end

section
namespace Go.Proofs.YtnacjogdndggeaaGreatDoor
open Go.Shelf Go.RowKit Go.Lib
set_option maxRecDepth 100000
set_option maxHeartbeats 1000000

def pairV (a : Int × Int) : Value := .agg #[.int .i64 a.1, .int .i64 a.2]
theorem i64_wf {a : Int} (h0 : -9223372036854775808 ≤ a) (h1 : a ≤ 9223372036854775807) : (Lit.int .i64 a).wf = true := by
  exact WalkArith.wf_i64 ⟨h0, h1⟩
theorem pend_field (s d : Int) (w : World) : (Instr.field 107 (.agg #[.int .i64 s, .int .i64 d]) 0).run Tryz.prog w = .ok (.int .i64 s) w := by
  simp [Instr.field, run_underlying Tryz.underlying107, asAgg, part, go_sem]
theorem pend_keyed : Go.Maps.Keyed Tryz.prog 3 := Go.Maps.int_keyed Tryz.underlying3
theorem PendAt.lookup {χ : Col} {c : Nat} {w : World} {p : Nat} {L : Pends} {m : Nat} (h : PendAt χ c w p L m) (id : Int) (h0 : -9223372036854775808 ≤ id) (h1 : id ≤ 9223372036854775807) :
    (Instr.lookup 105 (.map (some m)) (.int .i64 id) false).run Tryz.prog w = .ok (pairV ((aget L id).getD (0, 0))) w := by
  obtain ⟨v, ps, hrun, hv⟩ := h.map.lookup pend_keyed Tryz.underlying105 (Tryz.zeroValue107 w) (zd := .agg [.lit (.int .i64 0), .lit (.int .i64 0)]) (zp := []) rfl (Go.Maps.keyOf_int_mk Tryz.underlying3 (i64_wf h0 h1))
  rw [hrun]
  have ha := amap_atKey (f := fun _ (a : Int × Int) => (.agg [.lit (.int .i64 a.1), .lit (.int .i64 a.2)] : DataW Unit)) kfI id (.agg [.lit (.int .i64 0), .lit (.int .i64 0)]) L
  rw [show amap (Lit.int .i64) (fun _ (a : Int × Int) => (.agg [.lit (.int .i64 a.1), .lit (.int .i64 a.2)] : DataW Unit)) L = pendD L from rfl] at ha
  rw [ha] at hv
  obtain ⟨s, d, rfl, hy⟩ := Ro_inv hv
  have h1 := congrArg Prod.fst hy
  dsimp only at h1
  cases hg : aget L id with
  | none =>
    rw [hg] at h1
    injection h1 with h1
    injection h1 with h2 h3
    injection h2 with h2
    injection h2 with _ h2
    injection h3 with h3 _
    injection h3 with h3
    injection h3 with _ h3
    subst h2 h3
    rfl
  | some a =>
    rw [hg] at h1
    injection h1 with h1
    injection h1 with h2 h3
    injection h2 with h2
    injection h2 with _ h2
    injection h3 with h3 _
    injection h3 with h3
    injection h3 with _ h3
    subst h2 h3
    rfl

def stateF (L : Pends) (id : Int) : Int := ((aget L id).getD (0, 0)).1
theorem State_any {χ : Col} {c : Nat} {w : World} {p : Nat} {L : Pends} (h : IsPend χ c w p L) (id : Int) (h0 : -9223372036854775808 ≤ id) (h1 : id ≤ 9223372036854775807) :
    Calls Tryz.prog 52 #[.pointer (some ⟨p, 0, none⟩), .int .i64 id] w fun e w' => e = .returned (.int .i64 (stateF L id)) ∧ w = w' := by
  obtain ⟨m, h⟩ := h
  have hl := h.lookup id h0 h1
  have c0 := h.own.1.cell 0
  have HS : Hid (stateF L id = ((aget L id).getD (0, 0)).1) := rfl
  clear h
  generalize (aget L id).getD (0, 0) = a at *
  obtain ⟨s, d⟩ := a
  unfold pairV at hl
  have hf := pend_field s d w
  go_enter Tryz.func52, Tryz.ntmps52
  go_wp2_with (fail)
  go_ret
  exact ⟨by rw [HS.out]; rfl, rfl⟩

end Go.Proofs.YtnacjogdndggeaaGreatDoor
end
