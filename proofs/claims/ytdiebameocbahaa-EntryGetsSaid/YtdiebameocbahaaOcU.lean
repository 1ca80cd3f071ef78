/- Layer 7: the law's own 'bytes', and Cut. -/
import Derived.Test.YtdiebameocbahaaOcT
import Derived.WalkSmall
import Derived.BigQuiet
import Derived.Deep.QuietTactic
import Derived.Deep.RegionWith
import Derived.Deep.RegionHeld3
namespace Go.Proofs.Ytdiebameocbahaa
open Go.Shelf Go.RowKit

theorem bcell {B : Nat} {W w1 : World} (hb : Below B W w1) : (∀ b o, b < B → w1.cell? ⟨b, o, none⟩ = W.cell? ⟨b, o, none⟩) ∧ (∀ b o, b < B → w1.frozen? ⟨b, o, none⟩ = W.frozen? ⟨b, o, none⟩) :=
  ⟨fun b o h => hb.cell (p := ⟨b, o, none⟩) h, fun b o h => hb.frozen (p := ⟨b, o, none⟩) h⟩

theorem four_cells {w : World} {p : Nat} {T : TypeId} {ws : List (Nat × Int)} {f : Nat × Int → Int} (hl : ws.length = 4) (h : Blk w p (ws.map fun q => Value.int .i64 (f q)).toArray T) {k : Nat} (hk : k < 4) :
    w.cell? ⟨p, k, none⟩ = some (.int .i64 (f (ws.getD k (0, 0)))) := by
  rw [h.cell k]
  simp [List.getElem?_eq_getElem (show k < ws.length by omega), List.getD_eq_getElem?_getD]

theorem two_new (w : World) (c0 c1 : Array Value) (t0 t1 : TypeId) : Blk ((w.alloc (.cells c0 t0)).alloc (.cells c1 t1)) w.heap.size c0 t0 ∧ Blk ((w.alloc (.cells c0 t0)).alloc (.cells c1 t1)) (w.heap.size + 1) c1 t1 ∧ Below w.heap.size w ((w.alloc (.cells c0 t0)).alloc (.cells c1 t1)) := by
  have e1 : (w.alloc (.cells c0 t0)).heap.size = w.heap.size + 1 := by simp
  exact ⟨(Blk.new _ _ _).alloc _, Blk.new_at _ _ _ e1, ((Below.refl w.heap.size w).alloc (Nat.le_refl _) _).alloc (by omega) _⟩

set_option maxRecDepth 100000 in
set_option maxHeartbeats 4000000 in
theorem bytes_any (ws : List (Nat × Int)) (w : World) (hl : ws.length = 4) (h7 : ∀ k, k < 4 → (ws.getD k (0, 0)).1 ≤ 7) :
    Calls Try.prog 32 #[.agg (ws.map fun q => Value.int .i64 (q.1 : Int)).toArray, .agg (ws.map fun q => Value.int .i64 q.2).toArray] w fun e w' => e = .returned (.tuple #[.string (S (wBytes ws)), .bool (wFit ws)]) ∧ Below w.heap.size w w' := by
  obtain ⟨k0, k1, k2⟩ := two_new w (ws.map fun q => Value.int .i64 (q.1 : Int)).toArray (ws.map fun q => Value.int .i64 q.2).toArray 58 58
  have HK := Lib.hid (⟨k0, k1⟩ : _ ∧ _)
  have HB := Lib.hid k2
  have HL := Lib.hid hl
  have H7 := Lib.hid h7
  clear k0 k1 k2 hl h7
  generalize hA : (ws.map fun q => Value.int .i64 (q.1 : Int)).toArray = cA at *
  generalize hB : (ws.map fun q => Value.int .i64 q.2).toArray = cB at *
  have hAc : (Value.agg cA).cells = cA := rfl
  have hBc : (Value.agg cB).cells = cB := rfl
  have HA := Lib.hid hA
  have HBB := Lib.hid hB
  clear hA hB
  go_enter Try.func32, Try.ntmps32
  go_wp2
  generalize hW : (w.alloc (.cells cA 58)).alloc (.cells cB 58) = W at *
  clear hW
  have HW := HB
  have HF : Hid (wFit (ws.take 0) = true) := rfl
  have HBW : Hid (Below W.heap.size W W) := Below.refl _ _
  go_loopw [6, 8] (fun vs vi wr => ∃ k : Nat, k ≤ 4 ∧ vi = .int .i64 k ∧ vs = .string (S (wFlat (ws.take k))) ∧ (wFlat (ws.take k)).length ≤ 7 * k ∧ Hid (wFit (ws.take k) = true) ∧ Hid (Below W.heap.size W wr)) (fun _ vi _ => 4 - (intOf vi).toNat)
  case atStart => exact ⟨0, Nat.zero_le _, rfl, rfl, by simp [wFlat], HF, HBW⟩
  case round =>
    obtain ⟨k, hk, rfl, rfl, hlen, HF, HBW⟩ := hrel
    by_cases hlt : k < 4
    · have c1 := four_cells (f := fun q => (q.1 : Int)) HL.out (by rw [HA.out]; exact HK.out.1) hlt
      have c2 := four_cells (f := fun q => q.2) HL.out (by rw [HBB.out]; exact HK.out.2) hlt
      have d1 := below_cell HBW.out c1 (cell_lt c1)
      have d2 := below_cell HBW.out c2 (cell_lt c2)
      have h7 := H7.out k hlt
      have Ht := Lib.hid (take_w ws k (by rw [HL.out]; exact hlt))
      clear c1 c2
      generalize ws.getD k (0, 0) = p at *
      obtain ⟨n, z⟩ := p
      simp only at d1 d2 h7
      have b0 : (0 : Int) ≤ (k : Int) := by omega
      have b1 : (k : Int) < 4 := by omega
      by_cases hf : fits n z = true
      · have Hz := Lib.hid (fits_iff.1 hf).1
        have Hs := Lib.hid (fits_small h7 hf)
        go_wp2
        go_quiet ((go_at_call 17; exact Calls.quiet_of_same ((fits_any n z _ h7).mono fun _ _ h => ⟨h.1, h.2.symm⟩)))
        rw [hf]
        go_wp2
        have HBW2 := Lib.hid (below_drewN HBW.out nq)
        have z0 := Hz.out
        have z1 := Hs.out
        have hst := Lib.hid (wfit_step HF.out Ht.out hf)
        have hln := Lib.hid (wflat_step Ht.out hlen h7)
        go_region_with ((go_at_call 18; refine (refNum_any n z _ h7 z0 (by omega)).mono ?_; rintro e w3 ⟨rfl, hb3⟩; have HB3 := Lib.hid hb3; clear hb3))
        all_goals
          go_wp2
          exact ⟨⟨k + 1, hlt, by go_num, by rw [hst.out.2], hln.out, hst.out.1, HBW2.out.drew.trans (HB3.out.mono HBW2.out.size)⟩, by simp [intOf]; omega⟩
      · have hf' : fits n z = false := by simpa using hf
        go_wp2
        go_quiet ((go_at_call 17; exact Calls.quiet_of_same ((fits_any n z _ h7).mono fun _ _ h => ⟨h.1, h.2.symm⟩)))
        rw [hf']
        go_wp2
        go_ret2
        have Hw := wfit_fails Ht.out hf
        exact ⟨ret_sb (by unfold wBytes; rw [if_neg (by rw [Hw]; simp)]; rfl) Hw.symm, HB.out.trans ((below_drewN HBW.out _).mono HB.out.size)⟩
    · have hk4 : k = 4 := by omega
      subst hk4
      have Hx := Lib.hid (show ws.take 4 = ws from List.take_of_length_le (by rw [HL.out]; exact Nat.le_refl _))
      have HF2 := HF.out
      rw [Hx.out] at HF2
      have HF3 := Lib.hid HF2
      clear HF2
      go_wp2
      go_ret2
      exact ⟨ret_sb (by rw [Hx.out]; unfold wBytes; rw [if_pos HF3.out]) HF3.out.symm, HB.out.trans (HBW.out.mono HB.out.size)⟩

/-- The pieces of twenty bytes. -/
def pieces : Nat → List UInt8 → List (List UInt8)
  | 0, _ => []
  | n + 1, s => pieces n s ++ [(s.drop (20 * n)).take 20]

theorem pieces_length (n : Nat) (s : List UInt8) : (pieces n s).length = n := by
  induction n with
  | zero => rfl
  | succ n ih => simp [pieces, ih]

/-- What Cut leaves. -/
def CutPost (s : List UInt8) (w : World) (e : Ending) (w' : World) : Prop :=
  ∃ v, e = .returned (.tuple #[v, .bool (decide (s.length % 20 = 0))]) ∧ IsTexts w.heap.size v (if s.length % 20 = 0 then pieces (s.length / 20) s else []) w' ∧ Below w.heap.size w w'

theorem ret_vb {a b : Value} {x y : Bool} (h : a = b) (h' : x = y) : Ending.returned (.tuple #[a, .bool x]) = .returned (.tuple #[b, .bool y]) := by rw [h, h']

set_option maxRecDepth 100000 in
set_option maxHeartbeats 2000000 in
theorem cut_any (s : List UInt8) (w : World) (hs : s.length ≤ 2000) :
    Calls Try.prog 40 #[.string (S s)] w (CutPost s w) := by
  by_cases hm : s.length % 20 = 0
  · obtain ⟨N, hN⟩ : ∃ N, s.length = 20 * N := ⟨s.length / 20, by omega⟩
    have q0 : ((s.length : Int) % 20 != 0) = false := by simp; omega
    have HM := Lib.hid hm
    have HN := Lib.hid hN
    have hN100 : N ≤ 100 := by omega
    clear hm hN
    obtain ⟨i0, hi, hz0, hz1, hz2⟩ := info_parts infoStr
    go_enter Try.func40, Try.ntmps40
    go_wp2
    have HL : Hid (w.ownsRow w.heap.size 9 1 (.slice none 0 0) 0 (strVals (pieces 0 s))) := World.ownsRow_nil ..
    have HB := Lib.hid (Below.refl w.heap.size w)
    go_loopw [0, 4] (fun vs vl wr => ∃ k : Nat, k ≤ N ∧ vs = .string (S (s.drop (20 * k))) ∧ Hid (wr.ownsRow w.heap.size 9 1 vl k (strVals (pieces k s))) ∧ Hid (Below w.heap.size w wr)) (fun vs _ _ => match vs with | .string x => x.size | _ => 0)
    case atStart => exact ⟨0, Nat.zero_le _, by simp, HL, HB⟩
    case round =>
      obtain ⟨k, hk, rfl, HL, HB⟩ := hrel
      have hdl : (s.drop (20 * k)).length = 20 * N - 20 * k := by rw [List.length_drop, HN.out]
      by_cases hlt : k < N
      · have h20 : 20 ≤ (s.drop (20 * k)).length := by omega
        have h20' : (20 : Int) ≤ ((s.drop (20 * k)).length : Int) := by omega
        have hne : ((s.drop (20 * k)) == []) = false := by
          cases hd : s.drop (20 * k) with
          | nil => rw [hd] at h20; simp at h20
          | cons a b => rfl
        have HD := Lib.hid hdl
        clear hdl
        have hsz := HB.out.size
        have hown := HL.out
        have Hdd := Lib.hid (show (s.drop (20 * k)).drop 20 = s.drop (20 * (k + 1)) by rw [List.drop_drop, Nat.mul_succ])
        have Hp : Hid (pieces (k + 1) s = pieces k s ++ [(s.drop (20 * k)).take 20]) := rfl
        generalize s.drop (20 * k) = r at *
        go_wp2_with (at_builtin; refine wpList_append_own _ rfl _ _ 48 rfl w.heap.size 9 i0 (.string ⟨#[]⟩) 1 16 Try.underlying48 hi hz0 hz1 hz2 rfl (by decide) _ _ _ rfl (hown.alloc _) ⟨wr.heap.size, 0, none⟩ 1 1 [.string (S (r.take 20))] rfl rfl (cell_one_new wr _ _) (by simp [Value.oneCell']) (by unfold maxLen; omega) (by omega) (by simp; omega) ?_; intro v3 w3 hown3 hg3 _; have HB3 := Lib.hid ((HB.out.alloc hsz (.cells #[.string (S (r.take 20))] 9)).grown hg3 (by simp; omega) (fun k hk => ((hown.alloc (.cells #[.string (S (r.take 20))] 9)).lt k hk).1)); have HO3 := Lib.hid hown3; clear hown3 hg3)
        have HL3 : Hid (w3.ownsRow w.heap.size 9 1 v3 (k + 1) (strVals (pieces (k + 1) s))) := by
          have := HO3.out
          apply Lib.hid
          rw [Hp.out]
          simpa [strVals] using this
        exact ⟨⟨k + 1, hlt, by rw [Hdd.out], HL3, HB3⟩, by simp; omega⟩
      · have hkn : k = N := by omega
        subst hkn
        have hnil : s.drop (20 * k) = [] := List.eq_nil_of_length_eq_zero (by omega)
        have HX := Lib.hid (show (if s.length % 20 = 0 then pieces (s.length / 20) s else []) = pieces k s by rw [if_pos HM.out, HN.out, Nat.mul_div_cancel_left _ (by omega)])
        rw [hnil]
        clear hnil hdl
        go_wp2
        go_ret2
        refine ⟨_, ret_vb rfl (by rw [decide_eq_true HM.out]), ?_, HB.out⟩
        rw [HX.out]
        unfold IsTexts
        rw [pieces_length]
        exact HL.out
  · have q0 : ((s.length : Int) % 20 != 0) = true := by simp; omega
    go_enter Try.func40, Try.ntmps40
    go_wp2
    go_ret2
    exact ⟨_, ret_vb rfl (by rw [decide_eq_false hm]), by rw [if_neg hm]; exact World.ownsRow_nil .., Below.refl _ _⟩

end Go.Proofs.Ytdiebameocbahaa
