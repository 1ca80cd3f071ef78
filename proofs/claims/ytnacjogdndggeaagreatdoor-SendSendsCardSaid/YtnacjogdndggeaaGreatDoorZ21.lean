/- Layer 5 (seg): Append. Layer 5 (seg): Sync. Layer 6 (rec): the record of what was sealed; the record of bytes. Layers 12 and 17 (level, pend): Due; Note. -/
import Derived.Test.YtnacjogdndggeaaGreatDoorZ20
import Derived.Test.YtnacjogdndggeaaGreatDoorZ14
import Derived.Test.YtnacjogdndggeaaGreatDoorZ17
import Derived.Test.YtnacjogdndggeaaGreatDoorZ18
import Derived.Test.YtnacjogdndggeaaGreatDoorZ12
section
namespace Go.Proofs.YtnacjogdndggeaaGreatDoor
open Go.Shelf Go.RowKit Go.Lib
set_option maxRecDepth 100000
set_option maxHeartbeats 1000000

theorem fresh_any {χ : Col} {c cd r d : Nat} {R : RowM} {D : Dsk} {w : World} (h : IsRow χ c w r d R) (hd : IsDk χ cd w d D) (hon : R.On D) (ht : Tab χ w) (hc : c ≠ cd) (hN : D.files.length ≤ 1000000000) :
    Calls Tryz.prog 206 #[.pointer (some ⟨r, 0, none⟩)] w fun e w' => e = .returned (.int .i64 0) ∧ ∃ χ', Stp (fun k => k = c ∨ k = cd) χ w χ' w' ∧ IsRow χ' c w' r d R.next ∧ IsDk χ' cd w' d (R.made D) := by
  cases hf : R.full with
  | true => exact fresh_full h hd hon ht hf hc hN
  | false =>
    refine (fresh_not h hon.ok hf).mono ?_
    rintro e w' ⟨rfl, n, rfl⟩
    have hm : R.made D = D := by simp [RowM.made, hf]
    rw [RowM.next_not hf, hm]
    exact ⟨rfl, χ, Stp.of_below (below_drewN w n), h.drewN n, hd.below (below_drewN w n)⟩

theorem RowAt.setFin {χ : Col} {c r d : Nat} {w : World} {R : RowM} {pv : Value} (h : RowAt χ c w r d R.next pv) (s : List UInt8) :
    RowAt χ c (w.setCell ⟨r, 4, none⟩ (.int .i64 ((R.fin : Int) + s.length))) r d (R.append s) pv := by
  refine ⟨⟨?_, h.own.2⟩, ?_, h.crow⟩
  · have := h.own.1.set 4 (.int .i64 ((R.fin : Int) + s.length))
    rw [RowM.next_head, RowM.next_size, RowM.next_fin, RowM.next_synced] at this
    rw [show ((R.append s).fin : Int) = (R.fin : Int) + s.length by rw [RowM.fin_append]; simp]
    exact this
  · have hg : Gr (fun k => k = r) w (w.setCell ⟨r, 4, none⟩ (.int .i64 ((R.fin : Int) + s.length))) := (Gr.refl (fun k => k = r) w).set (p := ⟨r, 4, none⟩) (.inl rfl) _
    have h1 := ownsRow_gr h.row hg fun g hg2 e => h.ne (by rw [hg2, e])
    rw [RowM.places_append_next, show (R.append s).many = R.next.many by rw [RowM.append_next]]
    exact h1

theorem Append_row {χ : Col} {c cd r d : Nat} {R : RowM} {D : Dsk} {w : World} (h : IsRow χ c w r d R) (hd : IsDk χ cd w d D) (hon : R.On D) (ht : Tab χ w) (hc : c ≠ cd) (hc0 : c ≠ 0) (hd0 : cd ≠ 0)
    (s : List UInt8) (hs : s ≠ []) (hr : s.length ≤ R.room) (hdr : (s.length : Int) ≤ D.room) (hfb : R.fin + s.length ≤ 90000000) (hN : D.files.length ≤ 1000000000) (hW : D.waits.length ≤ 1000000000) :
    Calls Tryz.prog 144 #[.pointer (some ⟨r, 0, none⟩), .string (S s)] w fun e w' => e = .returned (.tuple #[.int .i64 R.fin, .int .i64 0]) ∧
      ∃ χ', Stp (fun k => k = c ∨ k = cd) χ w χ' w' ∧ IsRow χ' c w' r d (R.append s) ∧ IsDk χ' cd w' d (R.write D s) := by
  have ho := hon.ok
  have hRm := Room_row h ho
  have hDR := fun m => Room_any (w := w.drewN m) (hd.below (below_drewN w m))
  have hFr := fun {W : World} (h : IsRow χ c W r d R) (hd : IsDk χ cd W d D) (ht : Tab χ W) => fresh_any h hd hon ht hc hN
  have hon2 := R.on_next hon
  have hlast := R.lastI_lt ho
  have hpl := R.lastI_le ho
  obtain ⟨f, hf1, hf2⟩ := R.last_file hon
  have hsz := R.size_made hon hd.ok
  have hrm2 : (R.made D).room = D.room := by unfold Dsk.room; rw [hsz.1, hsz.2]
  have hW2 : (R.made D).waits.length ≤ 1000000000 := by unfold RowM.made; split <;> exact hW
  have hfin := ho.fin
  have hNm := fun {χ : Col} {W : World} (h : IsRow χ c W r d R.next) (ht : Tab χ W) => name_any h hon2.ok ht (R.place R.lastI) (by omega)
  rw [RowM.next_head] at hNm
  have hWr := fun {χ : Col} {W : World} (hd : IsDk χ cd W d (R.made D)) => Write_good (k := R.fin - R.place R.lastI) hd hf1 (by omega) hs (by rw [hf2, hrm2]; omega) hW2
  rw [show R.name R.lastI = segName R.head (R.place R.lastI) from rfl] at hWr
  have hwd : R.write D s = (R.made D).write (segName R.head (R.place R.lastI)) (R.fin - R.place R.lastI) s := rfl
  rw [hwd]
  have HI := Lib.hid h
  have HD := Lib.hid hd
  have HT := Lib.hid ht
  have i1 : ¬ (R.room : Int) < (s.length : Int) := by omega
  have i1' : ¬ R.room < s.length := by omega
  have i2 : ¬ D.room < (s.length : Int) := by omega
  have i3 : s.isEmpty = false := by cases s with | nil => exact absurd rfl hs | cons _ _ => rfl
  have hsub : (R.fin : Int) - (R.place R.lastI : Int) = ((R.fin - R.place R.lastI : Nat) : Int) := by omega
  have hwr : IntKind.i64.wrap ((R.fin - R.place R.lastI : Nat) : Int) = ((R.fin - R.place R.lastI : Nat) : Int) := IntWalk.i64_in _ (by omega)
  have HWF : Hid (wrap64 ((R.fin : Int) + s.length) = (R.fin : Int) + s.length ∧ IntKind.i64.wrap ((R.fin : Int) + s.length) = (R.fin : Int) + s.length) := Lib.hid ⟨IntWalk.wrap64_in _ (by omega), IntWalk.i64_in _ (by omega)⟩
  have hfl : (R.next.many : Int) - 1 = R.lastI := by omega
  have hfn : R.next.many - 1 = R.lastI := by omega
  have hmp : R.lastI < R.next.many := by omega
  have hmp0 : 0 < R.next.many := by omega
  have hnp : ∀ {χ : Col} {W : World} {pv : Value}, RowAt χ c W r d R.next pv → ∃ g cap, pv = .slice (some ⟨g, 0, none⟩) R.next.many cap ∧ W.cell? ⟨g, R.lastI, none⟩ = some (.int .i64 (R.place R.lastI : Int)) := fun h => by
    have := h.place (i := R.lastI) hmp
    rwa [RowM.next_place] at this
  have hmb : R.next.many ≤ 90000001 := by
    have h2 : R.next.bytes.length ≤ 90000000 := by rw [RowM.next_bytes]; unfold RowM.fin at hfin; omega
    have h1 := hon2.ok.least (by omega)
    have h3 : (R.next.many - 1) * 16 ≤ (R.next.many - 1) * R.next.size := Nat.mul_le_mul_left _ hon2.ok.size.1
    omega
  clear h hd ht hon ho hon2 hlast hf1 hf2 hsz hrm2 hW2 hW hN hwd hr hdr
  go_enter Tryz.func144, Tryz.ntmps144
  go_wp2_with (fail)
  refine hRm.mono ?_
  rintro e w' ⟨rfl, m1, rfl⟩
  clear hRm
  have HI1 := Lib.hid (HI.out.drewN m1)
  have HT1 := Lib.hid (HT.out.drewN m1)
  have HD1 := Lib.hid (HD.out.below (below_drewN w m1))
  have HB1 := Lib.hid (below_drewN w m1)
  have e0 : w.cell? ⟨r, 0, none⟩ = some (.pointer (some ⟨d, 0, none⟩)) := by
    obtain ⟨pv2, h2⟩ := HI.out
    exact h2.own.1.cell 0
  go_wp2_with (fail)
  refine (hDR m1).mono ?_
  rintro e w2 ⟨rfl, hb⟩
  clear hDR e0
  have HI2 := Lib.hid (HI1.out.below hb)
  have HT2 := Lib.hid (HT1.out.below hb)
  have HD2 := Lib.hid (HD1.out.below hb)
  have HB2 := Lib.hid (HB1.out.trans (hb.mono HB1.out.size))
  clear hb HI HT HD HI1 HT1 HD1 HB1
  go_wp2_with (fail)
  refine (hFr HI2.out HD2.out HT2.out).mono ?_
  rintro e w3 ⟨rfl, χ3, s3, hI3, hd3⟩
  have HS3 := Lib.hid ((Stp.of_below (C := fun k => k = c ∨ k = cd) (χ := χ) HB2.out).trans s3)
  have HT3 := Lib.hid (HT2.out.stp s3 (by omega))
  have HD3 := Lib.hid hd3
  have HI3 := Lib.hid hI3
  obtain ⟨pv3, h3⟩ := hI3
  obtain ⟨g3, cap3, rfl, cp⟩ := hnp h3
  have c0 := h3.own.1.cell 0
  have c3 := h3.own.1.cell 3
  have c4 := h3.own.1.cell 4
  rw [RowM.next_fin] at c4
  clear h3 hd3 s3 hFr HI2 HT2 HD2 HB2 hnp
  go_wp2_with (fail)
  go_quiet (fail)
  go_wp2_with (fail)
  have HD4 := Lib.hid (HD3.out.below (below_drewN w3 (nq + 1)))
  have HI4 := Lib.hid (HI3.out.drewN (nq + 1))
  have HT4 := Lib.hid (HT3.out.drewN (nq + 1))
  have HS4 := Lib.hid (HS3.out.trans (Stp.of_below (below_drewN w3 (nq + 1))))
  have e0 : (w3.drewN (nq + 1)).cell? ⟨r, 0, none⟩ = some (.pointer (some ⟨d, 0, none⟩)) := c0
  refine wp_region_held_drew (S := fun w' => w'.cell? ⟨r, 0, none⟩ = some (.pointer (some ⟨d, 0, none⟩))) (by kernel_rfl) e0 (fun hHeld => ?_)
  rw [show (w3.drewN nq).drew = w3.drewN (nq + 1) from rfl] at *
  generalize w3.drewN (nq + 1) = w4 at *
  clear c0 c3 c4 cp e0 HI3 HT3 HD3 HS3
  refine wpAnyH_take (i := 0) (oi := ⟨some 62, _, _, _, _, _⟩) (v := ?_) rfl (by kernel_rfl) (by kernel_rfl) (by kernel_rfl) (fun _ _ _ h => h) (Or.inl ⟨by rfl, (by intro w hSw; (try dsimp only at hSw); go_simp; try with_reducible rfl)⟩) hHeld ?_
  try simp only [Act.put, List.setIfInBounds_toArray, List.set_cons_zero, List.set_cons_succ]
  refine wpAnyH_take (i := 1) (oi := ⟨some 63, _, _, _, _, _⟩) (v := ?_) rfl (by kernel_rfl) (by kernel_rfl) (by kernel_rfl) (fun _ _ _ h => h) (Or.inl ⟨by rfl, (by intro w hSw; (try dsimp only at hSw); go_simp; try with_reducible rfl)⟩) hHeld ?_
  try simp only [Act.put, List.setIfInBounds_toArray, List.set_cons_zero, List.set_cons_succ]
  refine wpAnyH_take (i := 2) (oi := ⟨some 64, _, _, _, _, _⟩) (v := ?_) rfl (by kernel_rfl) (by kernel_rfl) (by kernel_rfl) (fun _ _ _ h => h) (Or.inl ⟨by rfl, (by intro w hSw; (try dsimp only at hSw); go_simp; try with_reducible rfl)⟩) hHeld ?_
  try simp only [Act.put, List.setIfInBounds_toArray, List.set_cons_zero, List.set_cons_succ]
  refine wpAnyH_take (i := 3) (oi := ⟨some 65, _, _, _, _, _⟩) (v := ?_) rfl (by kernel_rfl) (by kernel_rfl) (by kernel_rfl) (fun _ _ _ h => h) (Or.inl ⟨by rfl, (by intro w hSw; (try dsimp only at hSw); go_simp; try with_reducible rfl)⟩) hHeld ?_
  try simp only [Act.put, List.setIfInBounds_toArray, List.set_cons_zero, List.set_cons_succ]
  refine wpAnyH_take (i := 4) (oi := ⟨some 66, _, _, _, _, _⟩) (v := ?_) rfl (by kernel_rfl) (by kernel_rfl) (by kernel_rfl) (fun _ _ _ h => h) (Or.inl ⟨by rfl, (by intro w hSw; (try dsimp only at hSw); go_simp; try with_reducible rfl)⟩) hHeld ?_
  try simp only [Act.put, List.setIfInBounds_toArray, List.set_cons_zero, List.set_cons_succ]
  refine wpAnyH_take (i := 5) (oi := ⟨some 67, _, _, _, _, _⟩) (v := ?_) rfl (by kernel_rfl) (by kernel_rfl) (by kernel_rfl) (fun _ _ _ h => h) (Or.inl ⟨by rfl, (by intro w hSw; (try dsimp only at hSw); go_simp; try with_reducible rfl)⟩) hHeld ?_
  try simp only [Act.put, List.setIfInBounds_toArray, List.set_cons_zero, List.set_cons_succ]
  refine wpAnyH_take (i := 7) (oi := ⟨some 69, _, _, _, _, _⟩) (v := ?_) rfl (by kernel_rfl) (by kernel_rfl) (by kernel_rfl) (fun _ _ _ h => h) (Or.inl ⟨by rfl, (by intro w hSw; (try dsimp only at hSw); go_simp; try with_reducible rfl)⟩) hHeld ?_
  try simp only [Act.put, List.setIfInBounds_toArray, List.set_cons_zero, List.set_cons_succ]
  refine wpAnyH_take (i := 8) (oi := ⟨some 70, _, _, _, _, _⟩) (v := ?_) rfl (by kernel_rfl) (by kernel_rfl) (by kernel_rfl) (fun _ _ _ h => h) (Or.inl ⟨by rfl, (by intro w hSw; (try dsimp only at hSw); go_simp; try with_reducible rfl)⟩) hHeld ?_
  try simp only [Act.put, List.setIfInBounds_toArray, List.set_cons_zero, List.set_cons_succ]
  refine wpAnyH_take (i := 9) (oi := ⟨some 71, _, _, _, _, _⟩) (v := ?_) rfl (by kernel_rfl) (by kernel_rfl) (by kernel_rfl) (fun _ _ _ h => h) (Or.inl ⟨by rfl, (by intro w hSw; (try dsimp only at hSw); go_simp; try with_reducible rfl)⟩) hHeld ?_
  try simp only [Act.put, List.setIfInBounds_toArray, List.set_cons_zero, List.set_cons_succ]
  refine wpAnyH_take (i := 10) (oi := ⟨some 72, _, _, _, _, _⟩) (v := ?_) rfl (by kernel_rfl) (by kernel_rfl) (by kernel_rfl) (fun _ _ _ h => h) (Or.inl ⟨by rfl, (by intro w hSw; (try dsimp only at hSw); go_simp; try with_reducible rfl)⟩) hHeld ?_
  try simp only [Act.put, List.setIfInBounds_toArray, List.set_cons_zero, List.set_cons_succ]
  refine wpAnyH_ready (rs := [6]) (by kernel_rfl) (by simp) ?_
  refine AllReadyH.cons (o := ⟨some 68, _, _, _, _, _⟩) rfl (fun K hK => ?_) AllReadyH.nil
  go_simp
  refine (hNm HI4.out HT4.out).mono ?_
  rintro e w5 ⟨rfl, hb⟩
  have HD5 := Lib.hid (HD4.out.below hb)
  have HI5 := Lib.hid (HI4.out.below hb)
  have HS5 := Lib.hid (HS4.out.trans (Stp.of_below hb))
  have hS2 := (hb.cell (p := ⟨r, 0, none⟩) HI4.out.lt).trans hHeld
  refine hK.out _ _ hS2 (fun hHeld => ?_)
  clear hK K
  try simp only [Act.put, List.setIfInBounds_toArray, List.set_cons_zero, List.set_cons_succ]
  refine wpAnyH_ready (rs := [11]) (by kernel_rfl) (by simp) ?_
  refine AllReadyH.cons (o := ⟨some 73, _, _, _, _, _⟩) rfl (fun K hK => ?_) AllReadyH.nil
  go_simp
  refine (hWr HD5.out).mono ?_
  rintro e w6 ⟨rfl, χ6, s6, hd6⟩
  have hI6 := HI5.out.stp s6 hc
  have HS6 := Lib.hid (HS5.out.trans (s6.mono fun k hk => Or.inr hk))
  have HD6 := Lib.hid hd6
  obtain ⟨pv6, h6⟩ := hI6
  have H6 := Lib.hid h6
  have hS2 := h6.own.1.cell 0
  refine hK.out _ _ hS2 (fun hHeld => ?_)
  clear hK K
  try simp only [Act.put, List.setIfInBounds_toArray, List.set_cons_zero, List.set_cons_succ]
  refine wpAnyH_take (i := 12) (oi := ⟨some 9, _, _, _, _, _⟩) (v := ?_) rfl (by kernel_rfl) (by kernel_rfl) (by kernel_rfl) (fun _ _ _ h => h) (Or.inl ⟨by rfl, (by intro w hSw; (try dsimp only at hSw); go_simp; try with_reducible rfl)⟩) hHeld ?_
  try simp only [Act.put, List.setIfInBounds_toArray, List.set_cons_zero, List.set_cons_succ]
  refine wpAnyH_done (by kernel_rfl) ?_ _
  have c4 := H6.out.own.1.cell 4
  have f4 := H6.out.own.1.frozen 4
  rw [RowM.next_fin] at c4
  clear hb hd6 s6 h6 hS2 hHeld HI4 HT4 HD4 HS4 HI5 HD5 HS5 hNm hWr
  have hwf := HWF.out.1
  have hwf2 := HWF.out.2
  go_wp2
  go_ret2
  have s7 := (HS6.out.set (.inl (.inl H6.out.own.2)) (p := ⟨r, 4, none⟩) (.int .i64 ((R.fin : Int) + s.length)))
  have s8 : Stp (· = c) χ6 w6 χ6 (w6.setCell ⟨r, 4, none⟩ (.int .i64 ((R.fin : Int) + s.length))) := (Stp.refl (· = c) χ6 w6).set (p := ⟨r, 4, none⟩) (.inl H6.out.own.2) _
  exact ⟨rfl, χ6, s7, ⟨_, H6.out.setFin s⟩, HD6.out.stp s8 (fun e => hc e.symm)⟩

end Go.Proofs.YtnacjogdndggeaaGreatDoor
end

section
namespace Go.Proofs.YtnacjogdndggeaaGreatDoor
open Go.Shelf Go.RowKit Go.Lib Go.BigFrame
set_option maxRecDepth 100000
set_option maxHeartbeats 2000000

namespace RowM
def lateN (R : RowM) (l : List Nat) : List (List UInt8) := (l.filter R.late).map fun p => segName R.head p
theorem lateNames_eq (R : RowM) : R.lateNames = R.lateN R.places := rfl
theorem lateN_take_succ (R : RowM) {k : Nat} (h : k < R.many) : R.lateN (R.places.take (k + 1)) = R.lateN (R.places.take k) ++ if R.late (R.place k) then [segName R.head (R.place k)] else [] := by
  have hl : k < R.places.length := by rw [R.places_length]; exact h
  have hg : R.places[k] = R.place k := by
    have := R.places_getD h
    rw [List.getD_eq_getElem?_getD, List.getElem?_eq_getElem hl] at this
    exact this
  rw [List.take_add_one, List.getElem?_eq_getElem hl, hg]
  unfold lateN
  rw [List.filter_append, List.map_append]
  cases hl : R.late (R.place k) <;> simp [List.filter, hl]
theorem lateN_len (R : RowM) (l : List Nat) : (R.lateN l).length ≤ l.length := by
  unfold lateN
  rw [List.length_map]
  exact List.length_filter_le _ _
end RowM
theorem RSa_of_row {w : World} {base : Nat} {A : Option Addr} {cap : Nat} {l : List (List UInt8)} (h : w.ownsRow base 9 1 (.slice A l.length cap) l.length (strVals l)) : RSa w A l := by
  intro j hj
  rcases h.2 with ⟨_, h0⟩ | ⟨g, cp, cur, e, _⟩
  · omega
  · injection e with e1 _ e2
    subst e1
    have hl : (strVals l)[j]? = some (.string (S (l.getD j []))) := by
      unfold strVals
      rw [List.getElem?_map, List.getElem?_eq_getElem hj, List.getD_eq_getElem?_getD, List.getElem?_eq_getElem hj]
      rfl
    have := h.cells (g := g) rfl j _ hl
    rw [Addr.add_mid] at this
    exact ⟨g, 0, rfl, this⟩
theorem RowAt.setSynced {χ : Col} {c r d : Nat} {w : World} {R : RowM} {pv : Value} (h : RowAt χ c w r d R pv) :
    RowAt χ c (w.setCell ⟨r, 5, none⟩ (.int .i64 (R.fin : Int))) r d { R with synced := R.fin } pv := by
  refine ⟨⟨?_, h.own.2⟩, ?_, h.crow⟩
  · exact h.own.1.set 5 (.int .i64 (R.fin : Int))
  · have hg : Gr (fun k => k = r) w (w.setCell ⟨r, 5, none⟩ (.int .i64 (R.fin : Int))) := (Gr.refl (fun k => k = r) w).set (p := ⟨r, 5, none⟩) (.inl rfl) _
    exact ownsRow_gr h.row hg fun g hg2 e => h.ne (by rw [hg2, e])
theorem Dsk.sync_nil (D : Dsk) : D.sync [] = D := by
  unfold Dsk.sync
  simp

theorem Sync_row {χ : Col} {c cd r d : Nat} {R : RowM} {D : Dsk} {w : World} (h : IsRow χ c w r d R) (hd : IsDk χ cd w d D) (hon : R.On D) (ht : Tab χ w) (hc : c ≠ cd) (hW : D.waits.length ≤ 1000000000) (hM : R.many ≤ 1000000) :
    Calls Tryz.prog 147 #[.pointer (some ⟨r, 0, none⟩)] w fun e w' => e = .returned (.int .i64 0) ∧
      ∃ χ', Stp (fun k => k = c ∨ k = cd) χ w χ' w' ∧ IsRow χ' c w' r d R.synced' ∧ IsDk χ' cd w' d (R.syncD D) := by
  have ho := hon.ok
  have hDn := Down_any hd
  have hs := ho.size
  have hfin := ho.fin
  have hmb : R.many ≤ 90000001 := by
    rcases Nat.eq_zero_or_pos R.many with hm | hm
    · omega
    · have h2 : R.bytes.length ≤ 90000000 := by unfold RowM.fin at hfin; omega
      have h1 := ho.least (by omega)
      have h3 : (R.many - 1) * 16 ≤ (R.many - 1) * R.size := Nat.mul_le_mul_left _ hs.1
      omega
  have hpk : ∀ k, k < R.many → R.place k ≤ 90000000 := fun k hk => by
    have h1 := R.place_le ho (by omega)
    have h2 : R.place k ≤ R.place (R.many - 1) := by
      unfold RowM.place
      have := Nat.mul_le_mul_right R.size (show k ≤ R.many - 1 by omega)
      omega
    omega
  have hNm := fun (k : Nat) (hk : k < R.many) {W : World} (h : IsRow χ c W r d R) (ht : Tab χ W) => name_any h ho ht (R.place k) (by have := hpk k hk; omega)
  have hlate := RowM.late_there hon
  have hlen : R.lateNames.length ≤ R.many := by
    rw [RowM.lateNames_eq]
    have := R.lateN_len R.places
    rwa [R.places_length] at this
  have HI := Lib.hid h
  have HD := Lib.hid hd
  have HT := Lib.hid ht
  have HW := Lib.hid (And.intro hW (And.intro hlate hlen))
  obtain ⟨pv, h⟩ := h
  obtain ⟨A, cap, rfl⟩ := row_any h.row
  have c0 := h.own.1.cell 0
  have c3 := h.own.1.cell 3
  have HR := Lib.hid h
  obtain ⟨i0, hi, hz0, hz1, hz2⟩ := info_parts infoStr
  clear h hd ht hon hW hlate hlen
  go_enter Tryz.func147, Tryz.ntmps147
  go_wp2_with (fail)
  refine hDn.mono ?_
  rintro e w' ⟨rfl, rfl⟩
  clear hDn
  have HB := Lib.hid (Below.refl w.heap.size w)
  go_wp2_with (fail)
  go_loopw [3, 21] (fun vl vi wr => ∃ k : Nat, k ≤ R.many ∧ vi = .int .i64 k ∧ Hid (wr.ownsRow w.heap.size 9 1 vl (R.lateN (R.places.take k)).length (strVals (R.lateN (R.places.take k)))) ∧ Hid (Below w.heap.size w wr)) (fun _ vi _ => R.many - (intOf vi).toNat)
  case atStart => exact ⟨0, Nat.zero_le _, rfl, World.ownsRow_nil .., HB⟩
  case round =>
    obtain ⟨k, hk, rfl, HL, HB⟩ := hrel
    by_cases hlt : k < R.many
    · have HTk := Lib.hid (HT.out.below HB.out)
      have HIk := Lib.hid (HI.out.below HB.out)
      have hRk := HR.out.stp (C := fun _ => False) (Stp.of_below HB.out) (fun h => h)
      obtain ⟨gk, capk, hpv, cp⟩ := RowAt.place hRk hlt
      injection hpv with hA _ hcap
      subst hA hcap
      have k2 := hRk.own.1.cell 2
      have k4 := hRk.own.1.cell 4
      have k5 := hRk.own.1.cell 5
      have hpk1 := hpk k hlt
      have hNk := fun n => hNm k hlt (HIk.out.drewN n) (HTk.out.drewN n)
      have HS := Lib.hid (R.lateN_take_succ hlt)
      have HLe : Hid (R.late (R.place k) = (decide (R.synced < R.place k + R.size) && decide (R.synced < R.fin))) := rfl
      clear hRk hNm HI HT HD HW HR hpk
      generalize R.place k = p at *
      by_cases hcd : R.synced < p + R.size ∧ R.synced < R.fin
      · have q1 := hcd.1
        have q2 := hcd.2
        have q1i : (R.synced : Int) < (p : Int) + R.size := by omega
        clear hcd
        go_wp2_with (fail)
        go_quiet (fail)
        go_wp2_with (fail)
        refine (hNk _).mono ?_
        rintro e w2 ⟨rfl, hb⟩
        have hB2 := HB.out.trans (((below_drewN wr nq).trans (hb.mono (Nat.le_refl _))).mono HB.out.size)
        have hown2 := ownsRow_stp (C := fun _ => False) (χ := χ) HL.out (Stp.of_below ((below_drewN wr nq).trans (hb.mono (Nat.le_refl _)))) (fun _ _ h => h)
        have HB2 := Lib.hid hB2
        have hsz2 := hB2.size
        have HL8 := Lib.hid (show (R.lateN (R.places.take k)).length ≤ 90000001 by have := R.lateN_len (R.places.take k); rw [List.length_take] at this; omega)
        clear hb hB2
        go_wp2_with (at_builtin; refine wpList_append_own _ rfl _ _ 31 rfl w.heap.size 9 i0 (.string ⟨#[]⟩) 1 16 Tryz.underlying31 hi hz0 hz1 hz2 rfl (by decide) _ _ _ rfl (hown2.alloc _) ⟨w2.heap.size, 0, none⟩ 1 1 [.string (S (segName R.head p))] rfl rfl (cell_one_new w2 _ _) (by simp [Value.oneCell']) (by have := HL8.out; unfold maxLen; omega) (by have := HL8.out; omega) (by simp; omega) ?_; intro v3 w3 hown3 hg3 _)
        have hlt3 := fun k hk => ((hown2.alloc (.cells #[.string (S (segName R.head p))] 9)).lt k hk).1
        have HB3 := Lib.hid ((HB2.out.alloc hsz2 (.cells #[.string (S (segName R.head p))] 9)).grown hg3 (by simp; omega) hlt3)
        have hT : R.lateN (R.places.take (k + 1)) = R.lateN (R.places.take k) ++ [segName R.head p] := by
          rw [HS.out, HLe.out, decide_eq_true q1, decide_eq_true q2]
          rfl
        have HL3 : Hid (w3.ownsRow w.heap.size 9 1 v3 (R.lateN (R.places.take (k + 1))).length (strVals (R.lateN (R.places.take (k + 1))))) := by
          apply Lib.hid
          rw [hT]
          unfold strVals at *
          rw [List.map_append, List.length_append]
          exact hown3
        clear hown2 hown3 hg3 hlt3 HB2 hT HS HLe
        go_wp2
        exact ⟨⟨k + 1, hlt, by go_num, HL3, HB3⟩, by simp [intOf]; omega⟩
      · have hT : R.lateN (R.places.take (k + 1)) = R.lateN (R.places.take k) := by
          rw [HS.out, HLe.out]
          have : (decide (R.synced < p + R.size) && decide (R.synced < R.fin)) = false := by
            rw [Bool.and_eq_false_iff, decide_eq_false_iff_not, decide_eq_false_iff_not]
            omega
          rw [this]
          simp
        rw [← hT] at HL
        have HB3 := Lib.hid (HB.out.drew.drew)
        clear hT HS HLe
        by_cases q1 : R.synced < p + R.size
        · have q2 : ¬ R.synced < R.fin := by omega
          have q1i : (R.synced : Int) < (p : Int) + R.size := by omega
          clear hcd
          go_wp2_with (fail)
          go_quiet (fail)
          go_wp2
          exact ⟨⟨k + 1, hlt, by go_num, HL, Lib.hid (HB.out.trans ((below_drewN wr nq).mono HB.out.size))⟩, by simp [intOf]; omega⟩
        · have q1i : ¬ (R.synced : Int) < (p : Int) + R.size := by omega
          have q1d : decide ((R.synced : Int) < (p : Int) + R.size) = false := decide_eq_false q1i
          have q1e : (p : Int) + R.size ≤ R.synced := by omega
          have q1f : p + R.size ≤ R.synced := by omega
          clear hcd q1
          go_wp2_with (fail)
          go_quiet (fail)
          go_wp2
          exact ⟨⟨k + 1, hlt, by go_num, HL, Lib.hid (HB.out.trans ((below_drewN wr nq).mono HB.out.size))⟩, by simp [intOf]; omega⟩
    · have hkn : k = R.many := by omega
      subst hkn
      rw [show R.places.take R.many = R.places from List.take_of_length_le (by rw [R.places_length]; omega), ← RowM.lateNames_eq] at HL
      have HSP := Lib.hid ((Stp.of_below (C := fun k => k = c ∨ k = cd) (χ := χ) HB.out).paint (Nat.le_refl _) c)
      have HR2 := Lib.hid (HR.out.stp (C := fun _ => False) ((Stp.of_below (χ := χ) HB.out).paint (Nat.le_refl _) c) (fun h => h))
      have HD2 := Lib.hid (HD.out.stp (C := fun _ => False) ((Stp.of_below (χ := χ) HB.out).paint (Nat.le_refl _) c) (fun h => h))
      clear HI HD HT HR hNm c0 c3
      have hL := HL.out
      obtain ⟨A2, cap2, rfl⟩ := row_any hL
      have c0 := HR2.out.own.1.cell 0
      by_cases hnil : R.lateNames = []
      · have HN := Lib.hid hnil
        have hz : (R.lateNames.length : Int) = 0 := by rw [hnil]; rfl
        clear hnil
        go_wp2_with (fail)
        go_ret
        have h1 : R.synced' = R := by unfold RowM.synced'; rw [if_pos HN.out]
        have h2 : R.syncD D = D := by unfold RowM.syncD; rw [HN.out, Dsk.sync_nil]
        rw [h1, h2]
        exact ⟨rfl, _, HSP.out, ⟨_, HR2.out⟩, HD2.out⟩
      · have hlen : 0 < R.lateNames.length := List.length_pos_iff.2 hnil
        have hRS : RSa wr A2 R.lateNames := RSa_of_row hL
        have hA : ∀ b o, A2 = some ⟨b, o, none⟩ → paint χ w.heap.size c b ≠ cd := by
          intro b o e
          subst e
          have := (hL.lt b rfl).1
          rw [paint_new this]
          exact hc
        have hSy := DSync_good (cp := cap2) HD2.out hRS hA HW.out.2.1 (by have := HW.out.2.2; omega) HW.out.1
        have HN := Lib.hid hnil
        have hz : ((R.lateNames.length : Int) == 0) = false := beq_eq_false_iff_ne.2 (by omega)
        clear hL HL hRS hA hnil
        go_wp2_with (fail)
        refine hSy.mono ?_
        rintro e w4 ⟨rfl, s4, hd4⟩
        have HD4 := Lib.hid hd4
        have HR4 := Lib.hid (HR2.out.stp s4 hc)
        have HS4 := Lib.hid (HSP.out.trans (s4.mono fun k hk => Or.inr hk))
        have c4 := HR4.out.own.1.cell 4
        have c5 := HR4.out.own.1.cell 5
        have f5 := HR4.out.own.1.frozen 5
        clear s4 hd4 hSy HR2 HD2 HSP c0
        go_wp2_with (fail)
        go_ret
        have h1 : R.synced' = { R with synced := R.fin } := by unfold RowM.synced'; rw [if_neg HN.out]
        have s5 := (Stp.refl (· = c) _ w4).set (p := ⟨r, 5, none⟩) (.inl HR4.out.own.2) (.int .i64 (R.fin : Int))
        rw [h1]
        exact ⟨rfl, _, HS4.out.trans (s5.mono fun k hk => Or.inl hk), ⟨_, HR4.out.setSynced⟩, HD4.out.stp s5 (fun e => hc e.symm)⟩

end Go.Proofs.YtnacjogdndggeaaGreatDoor
end

section
namespace Go.Proofs.YtnacjogdndggeaaGreatDoor
open Go.Shelf Go.RowKit Go.Lib
set_option maxRecDepth 100000
set_option maxHeartbeats 2000000

/-- What opens a right record's bytes, step by step. -/
theorem opened_steps (m : Rec) (W : Within m) : ∃ s1 s2 s3 s4 s5 s6 s7 s8 s9 : List UInt8,
    numF (insideF m) 0 1 = (m.kind, s1, 0) ∧ numF s1 0 1 = (m.queue, s2, 0) ∧ numF s2 0 1 = (m.retry, s3, 0) ∧ numF s3 0 6 = (m.born, s4, 0) ∧ numF s4 0 6 = (m.due, s5, 0) ∧ numF s5 0 6 = (m.ref, s6, 0) ∧
    textF s6 0 16 = (m.topic, s7, 0) ∧ textF s7 0 16 = (m.tag, s8, 0) ∧ textF s8 0 200 = (m.body, s9, 0) ∧ listF s9 0 3 16 = (m.keys, [], 0) := by
  obtain ⟨kind, queue, due, retry, ref, born, topic, tag, body, keys⟩ := m
  obtain ⟨w0, w1, w2, w3, w4, w5, w6, w7, w8, w9, w10⟩ := W
  simp only at *
  have hl := listF_B keys [] 3 16 16 (by omega) (by omega) (by omega) (by omega) w10
  rw [List.append_nil] at hl
  rw [insideF_eq]
  simp only
  exact ⟨_, _, _, _, _, _, _, _, _, numF_be 1 kind _ (by omega) (by omega) (by omega) (by omega), numF_be 1 queue _ (by omega) (by omega) (by omega) (by omega), numF_be 1 retry _ (by omega) (by omega) (by omega) (by omega),
    numF_be 6 born _ (by omega) (by omega) (by omega) (by omega), numF_be 6 due _ (by omega) (by omega) (by omega) (by omega), numF_be 6 ref _ (by omega) (by omega) (by omega) (by omega),
    textF_B topic _ 16 (by omega) (by omega), textF_B tag _ 16 (by omega) (by omega), textF_B body _ 200 (by omega) (by omega), hl⟩

theorem RSa.gr {F : Nat → Prop} {w w' : World} {A : Option Addr} {ts : List (List UInt8)} (h : RSa w A ts) (hg : Gr F w w') (hA : ∀ b o, A = some ⟨b, o, none⟩ → ¬ F b) : RSa w' A ts := fun j hj => by
  obtain ⟨b, o, hAe, hc⟩ := h j hj
  exact ⟨b, o, hAe, (World.cell?_of_block (a := ⟨b, o + j, none⟩) (hg.block b (cell_lt hc) (hA b o hAe))).trans hc⟩

theorem opened_good (m : Rec) (w : World) (h : rightF m = true) (hk : m.kind = 1 ∨ m.kind = 2) :
    Calls Tryz.prog 75 #[.string (S (insideF m))] w fun e w' => ∃ A c, e = .returned (.tuple #[.agg (recV m A c), .bool true]) ∧ RSa w' A m.keys ∧ Below w.heap.size w w' ∧ (∀ b o, A = some ⟨b, o, none⟩ → w.heap.size ≤ b) := by
  have h0 : m.kind ≠ 0 := by omega
  obtain ⟨s1, s2, s3, s4, s5, s6, s7, s8, s9, t1, t2, t3, t4, t5, t6, t7, t8, t9, t10⟩ := opened_steps m (right_within h h0)
  have HRi := Lib.hid (fun (A : Option Addr) (c : Nat) (w : World) (hr : RSa w A m.keys) => Right_good m A c w hr h hk)
  generalize insideF m = s0 at *
  obtain ⟨kind, queue, due, retry, ref, born, topic, tag, body, keys⟩ := m
  simp only [recV] at *
  have HB := Lib.hid ((Below.refl w.heap.size w).alloc (Nat.le_refl _) (.cells #[.int .i64 0, .int .i64 0, .int .i64 0, .int .i64 0, .int .i64 0, .int .i64 0, .string ⟨#[]⟩, .string ⟨#[]⟩, .string ⟨#[]⟩, .slice none 0 0] 56))
  have HRB := Lib.hid (Blk.new w #[.int .i64 0, .int .i64 0, .int .i64 0, .int .i64 0, .int .i64 0, .int .i64 0, .string ⟨#[]⟩, .string ⟨#[]⟩, .string ⟨#[]⟩, .slice none 0 0] 56)
  clear h
  go_enter Tryz.func75, Tryz.ntmps75
  go_upto_region 1 with (fail)
  generalize w.alloc (.cells #[.int .i64 0, .int .i64 0, .int .i64 0, .int .i64 0, .int .i64 0, .int .i64 0, .string ⟨#[]⟩, .string ⟨#[]⟩, .string ⟨#[]⟩, .slice none 0 0] 56) = w1 at *
  go_wp2_with (fail)
  refine (New_any s0 w1).mono ?_
  rintro e w2 ⟨rfl, hR, hb⟩
  have HRB2 := Lib.hid (HRB.out.below hb)
  have HB2 := Lib.hid (HB.out.trans (hb.mono HB.out.size))
  have HR2 := Lib.hid hR
  have hg1 : w.heap.size < w1.heap.size := HRB.out.lt
  have hgn : w1.heap.size ≠ w.heap.size := by omega
  generalize w1.heap.size = g at *
  clear hb hR HRB HB
  have hc := RNum_any g s0 0 1 w2 HR2.out
  rw [t1] at hc
  dsimp only at hc
  go_wp2_with (fail)
  refine hc.mono ?_
  rintro e w3 ⟨rfl, hR, ho⟩
  have HR3 := Lib.hid hR
  have HRB3 := Lib.hid (HRB2.out.grown ho (fun e => hgn (by injection e)))
  have HB3 := Lib.hid (below_only HB2.out ho (by omega) HB2.out.size)
  clear hc hR ho HR2 HRB2 HB2 t1
  have hc := RNum_any g s1 0 1 w3 HR3.out
  rw [t2] at hc
  dsimp only at hc
  go_wp2_with (fail)
  refine hc.mono ?_
  rintro e w4 ⟨rfl, hR, ho⟩
  have HR4 := Lib.hid hR
  have HRB4 := Lib.hid (HRB3.out.grown ho (fun e => hgn (by injection e)))
  have HB4 := Lib.hid (below_only HB3.out ho (by omega) HB3.out.size)
  clear hc hR ho HR3 HRB3 HB3 t2
  have hc := RNum_any g s2 0 1 w4 HR4.out
  rw [t3] at hc
  dsimp only at hc
  go_wp2_with (fail)
  refine hc.mono ?_
  rintro e w5 ⟨rfl, hR, ho⟩
  have HR5 := Lib.hid hR
  have HRB5 := Lib.hid (HRB4.out.grown ho (fun e => hgn (by injection e)))
  have HB5 := Lib.hid (below_only HB4.out ho (by omega) HB4.out.size)
  clear hc hR ho HR4 HRB4 HB4 t3
  have hba := (Below.refl w5.heap.size w5).alloc (Nat.le_refl _) (.cells #[.int .i64 kind, .int .i64 queue, .int .i64 0, .int .i64 retry, .int .i64 0, .int .i64 0, .string ⟨#[]⟩, .string ⟨#[]⟩, .string ⟨#[]⟩, .slice none 0 0] 56)
  have HM6 := Lib.hid (Blk.new w5 #[.int .i64 kind, .int .i64 queue, .int .i64 0, .int .i64 retry, .int .i64 0, .int .i64 0, .string ⟨#[]⟩, .string ⟨#[]⟩, .string ⟨#[]⟩, .slice none 0 0] 56)
  have HR6 := Lib.hid (HR5.out.below hba)
  have HRB6 := Lib.hid (HRB5.out.below hba)
  have HB6 := Lib.hid (HB5.out.alloc HB5.out.size (.cells #[.int .i64 kind, .int .i64 queue, .int .i64 0, .int .i64 retry, .int .i64 0, .int .i64 0, .string ⟨#[]⟩, .string ⟨#[]⟩, .string ⟨#[]⟩, .slice none 0 0] 56))
  have hgl := HR5.out.lt
  have hrl := HRB5.out.lt
  have hgm : g ≠ w5.heap.size := by omega
  have hrm : w.heap.size ≠ w5.heap.size := by omega
  have hbw : w.heap.size ≤ w5.heap.size := HB5.out.size
  clear hba HR5 HRB5 HB5 hgl hrl
  go_upto_region 3 with (fail)
  generalize w5.alloc (.cells #[.int .i64 kind, .int .i64 queue, .int .i64 0, .int .i64 retry, .int .i64 0, .int .i64 0, .string ⟨#[]⟩, .string ⟨#[]⟩, .string ⟨#[]⟩, .slice none 0 0] 56) = w6 at *
  generalize w5.heap.size = mb at *
  have hc := RNum_any g s3 0 6 w6 HR6.out
  rw [t4] at hc
  dsimp only at hc
  go_wp2_with (fail)
  refine hc.mono ?_
  rintro e w7 ⟨rfl, hR, ho⟩
  have HR7 := Lib.hid hR
  have HRB7 := Lib.hid (HRB6.out.grown ho (fun e => hgn (by injection e)))
  have HB7 := Lib.hid (below_only HB6.out ho (by omega) HB6.out.size)
  have HM7 := Lib.hid (HM6.out.grown ho (fun e => hgm (by injection e)))
  clear hc hR ho HR6 HRB6 HB6 HM6 t4
  have hc := RNum_any g s4 0 6 w7 HR7.out
  rw [t5] at hc
  dsimp only at hc
  go_wp2_with (fail)
  refine hc.mono ?_
  rintro e w8 ⟨rfl, hR, ho⟩
  have HR8 := Lib.hid hR
  have HRB8 := Lib.hid (HRB7.out.grown ho (fun e => hgn (by injection e)))
  have HB8 := Lib.hid (below_only HB7.out ho (by omega) HB7.out.size)
  have HM8 := Lib.hid (HM7.out.grown ho (fun e => hgm (by injection e)))
  clear hc hR ho HR7 HRB7 HB7 HM7 t5
  have hc := RNum_any g s5 0 6 w8 HR8.out
  rw [t6] at hc
  dsimp only at hc
  go_wp2_with (fail)
  refine hc.mono ?_
  rintro e w9 ⟨rfl, hR, ho⟩
  have HR9 := Lib.hid hR
  have HRB9 := Lib.hid (HRB8.out.grown ho (fun e => hgn (by injection e)))
  have HB9 := Lib.hid (below_only HB8.out ho (by omega) HB8.out.size)
  have HM9 := Lib.hid (HM8.out.grown ho (fun e => hgm (by injection e)))
  clear hc hR ho HR8 HRB8 HB8 HM8 t6
  have c5 := HM9.out.cell 5
  have f5 := HM9.out.frozen 5
  have c2 := HM9.out.cell 2
  have f2 := HM9.out.frozen 2
  have c4 := HM9.out.cell 4
  have f4 := HM9.out.frozen 4
  have ho := (Only.set (.int .i64 ref) 4 ((Only.set (.int .i64 due) 2 ((Only.set (.int .i64 born) 5 (Only.refl (g := mb) (w := w9)))))))
  have HM10 := Lib.hid (by
    have hx := (((HM9.out.set 5 (.int .i64 born)).set 2 (.int .i64 due)).set 4 (.int .i64 ref))
    simp only [List.setIfInBounds_toArray, List.set_cons_zero, List.set_cons_succ] at hx
    exact hx)
  have HRB10 := Lib.hid (HRB9.out.grown ho (fun e => hrm (by injection e with e; exact e.symm)))
  have HR10 := Lib.hid (HR9.out.grown ho (fun e => hgm (by injection e with e; exact e.symm)))
  have HB10 := Lib.hid (((HB9.out.setCell (p := ⟨mb, 5, none⟩) hbw (.int .i64 born)).setCell (p := ⟨mb, 2, none⟩) hbw (.int .i64 due)).setCell (p := ⟨mb, 4, none⟩) hbw (.int .i64 ref))
  clear ho
  go_upto_region 4 with (fail)
  generalize (((w9.setCell ⟨mb, 5, none⟩ (.int .i64 born)).setCell ⟨mb, 2, none⟩ (.int .i64 due)).setCell ⟨mb, 4, none⟩ (.int .i64 ref)) = w10 at *
  clear c5 f5 c2 f2 c4 f4 HM9 HRB9 HR9 HB9
  have hc := RText_any g s6 0 16 w10 HR10.out
  rw [t7] at hc
  dsimp only at hc
  go_wp2_with (fail)
  refine hc.mono ?_
  rintro e w11 ⟨rfl, hR, ho⟩
  have HR11 := Lib.hid hR
  have HRB11 := Lib.hid (HRB10.out.grown ho (fun e => hgn (by injection e)))
  have HB11 := Lib.hid (below_only HB10.out ho (by omega) HB10.out.size)
  have HM11 := Lib.hid (HM10.out.grown ho (fun e => hgm (by injection e)))
  clear hc hR ho HR10 HRB10 HB10 HM10 t7
  have hc := RText_any g s7 0 16 w11 HR11.out
  rw [t8] at hc
  dsimp only at hc
  go_wp2_with (fail)
  refine hc.mono ?_
  rintro e w12 ⟨rfl, hR, ho⟩
  have HR12 := Lib.hid hR
  have HRB12 := Lib.hid (HRB11.out.grown ho (fun e => hgn (by injection e)))
  have HB12 := Lib.hid (below_only HB11.out ho (by omega) HB11.out.size)
  have HM12 := Lib.hid (HM11.out.grown ho (fun e => hgm (by injection e)))
  clear hc hR ho HR11 HRB11 HB11 HM11 t8
  have hc := RText_any g s8 0 200 w12 HR12.out
  rw [t9] at hc
  dsimp only at hc
  go_wp2_with (fail)
  refine hc.mono ?_
  rintro e w13 ⟨rfl, hR, ho⟩
  have HR13 := Lib.hid hR
  have HRB13 := Lib.hid (HRB12.out.grown ho (fun e => hgn (by injection e)))
  have HB13 := Lib.hid (below_only HB12.out ho (by omega) HB12.out.size)
  have HM13 := Lib.hid (HM12.out.grown ho (fun e => hgm (by injection e)))
  clear hc hR ho HR12 HRB12 HB12 HM12 t9
  have c6 := HM13.out.cell 6
  have f6 := HM13.out.frozen 6
  have c7 := HM13.out.cell 7
  have f7 := HM13.out.frozen 7
  have c8 := HM13.out.cell 8
  have f8 := HM13.out.frozen 8
  have ho := (Only.set (.string (S body)) 8 ((Only.set (.string (S tag)) 7 ((Only.set (.string (S topic)) 6 (Only.refl (g := mb) (w := w13)))))))
  have HM14 := Lib.hid (by
    have hx := (((HM13.out.set 6 (.string (S topic))).set 7 (.string (S tag))).set 8 (.string (S body)))
    simp only [List.setIfInBounds_toArray, List.set_cons_zero, List.set_cons_succ] at hx
    exact hx)
  have HRB14 := Lib.hid (HRB13.out.grown ho (fun e => hrm (by injection e with e; exact e.symm)))
  have HR14 := Lib.hid (HR13.out.grown ho (fun e => hgm (by injection e with e; exact e.symm)))
  have HB14 := Lib.hid (((HB13.out.setCell (p := ⟨mb, 6, none⟩) hbw (.string (S topic))).setCell (p := ⟨mb, 7, none⟩) hbw (.string (S tag))).setCell (p := ⟨mb, 8, none⟩) hbw (.string (S body)))
  clear ho
  go_upto_region 5 with (fail)
  generalize (((w13.setCell ⟨mb, 6, none⟩ (.string (S topic))).setCell ⟨mb, 7, none⟩ (.string (S tag))).setCell ⟨mb, 8, none⟩ (.string (S body))) = w14 at *
  clear c6 f6 c7 f7 c8 f8 HM13 HRB13 HR13 HB13
  have hc := RList_any g s9 0 3 16 w14 HR14.out
  rw [t10] at hc
  go_wp2_with (fail)
  refine hc.mono ?_
  rintro e w15 ⟨v, rfl, hv, hR, ho⟩
  dsimp only at hv hR
  obtain ⟨A, cap, rfl⟩ := row_any hv
  have HR15 := Lib.hid hR
  have HV15 := Lib.hid (show RSa w15 A keys from RSa_of_row hv)
  have HRB15 := Lib.hid (HRB14.out.grown ho (fun e => hgn (by injection e)))
  have HB15 := Lib.hid (below_only HB14.out ho (by omega) HB14.out.size)
  have HM15 := Lib.hid (HM14.out.grown ho (fun e => hgm (by injection e)))
  have HN15 := Lib.hid (hv.lt)
  have HL15 := Lib.hid (HM14.out.lt)
  clear hc hR ho hv HR14 HRB14 HB14 HM14 t10
  have c9 := HM15.out.cell 9
  have f9 := HM15.out.frozen 9
  have hAb : ∀ b o, A = some ⟨b, o, none⟩ → w14.heap.size ≤ b := fun b o e => by
    subst e
    exact (HN15.out b rfl).1
  have hrb14 : w.heap.size < w14.heap.size := Nat.lt_of_le_of_lt hbw HL15.out
  have ho := Only.set (g := mb) (.slice A keys.length cap) 9 (Only.refl (w := w15))
  have HM16 := Lib.hid (by
    have hx := (HM15.out.set 9 (.slice A keys.length cap))
    simp only [List.setIfInBounds_toArray, List.set_cons_zero, List.set_cons_succ] at hx
    exact hx)
  have HRB16 := Lib.hid (HRB15.out.grown ho (fun e => hrm (by injection e with e; exact e.symm)))
  have HR16 := Lib.hid (show IsR g [] 0 _ from HR15.out.grown ho (fun e => hgm (by injection e with e; exact e.symm)))
  have HB16 := Lib.hid (HB15.out.setCell (p := ⟨mb, 9, none⟩) hbw (.slice A keys.length cap))
  have HV16 := Lib.hid (HV15.out.gr ((Gr.refl (fun k => k = mb) w15).set (p := ⟨mb, 9, none⟩) (.inl rfl) (.slice A keys.length cap)) (fun b o e e2 => by have := hAb b o e; have := HL15.out; omega))
  go_wp2_with (fail)
  clear ho c9 f9 HM15 HRB15 HR15 HB15 HV15
  generalize w15.setCell ⟨mb, 9, none⟩ (.slice A keys.length cap) = w16 at *
  have HM17 := Lib.hid (show Blk w16.drew mb _ _ from HM16.out)
  have HRB17 := Lib.hid (show Blk w16.drew w.heap.size _ _ from HRB16.out)
  have HR17 := Lib.hid (show IsR g [] 0 w16.drew from HR16.out)
  have HB17 := Lib.hid HB16.out.drew
  have HV17 := Lib.hid (show RSa w16.drew A keys from HV16.out)
  have e0 := And.intro (HM17.out.cell 0) (And.intro (HM17.out.cell 1) (And.intro (HM17.out.cell 2) (And.intro (HM17.out.cell 3) (And.intro (HM17.out.cell 4) (And.intro (HM17.out.cell 5) (And.intro (HM17.out.cell 6) (And.intro (HM17.out.cell 7) (And.intro (HM17.out.cell 8) ((HM17.out.cell 9))))))))))
  refine wp_region_held_drew (S := fun w' => w'.cell? ⟨mb, 0, none⟩ = some (.int .i64 kind) ∧ w'.cell? ⟨mb, 1, none⟩ = some (.int .i64 queue) ∧ w'.cell? ⟨mb, 2, none⟩ = some (.int .i64 due) ∧ w'.cell? ⟨mb, 3, none⟩ = some (.int .i64 retry) ∧ w'.cell? ⟨mb, 4, none⟩ = some (.int .i64 ref) ∧ w'.cell? ⟨mb, 5, none⟩ = some (.int .i64 born) ∧ w'.cell? ⟨mb, 6, none⟩ = some (.string (S topic)) ∧ w'.cell? ⟨mb, 7, none⟩ = some (.string (S tag)) ∧ w'.cell? ⟨mb, 8, none⟩ = some (.string (S body)) ∧ w'.cell? ⟨mb, 9, none⟩ = some (.slice A keys.length cap)) (by kernel_rfl) e0 (fun hHeld => ?_)
  clear HM16 HRB16 HR16 HB16 HV16 e0
  generalize w16.drew = w17 at *
  have hkb : (kind != 0) = true := by simpa using h0
  have hE := End_any g [] 0 w17 HR17.out
  rw [show endF [] 0 = 0 from rfl] at hE
  refine wpAnyH_take (i := 0) (oi := ⟨some 36, _, _, _, _, _⟩) (v := ?_) rfl (by kernel_rfl) (by kernel_rfl) (by kernel_rfl) (fun _ _ _ h => h) (Or.inl ⟨by rfl, (by intro w hSw; (try dsimp only at hSw); go_simp; try with_reducible rfl)⟩) hHeld ?_
  try simp only [Act.put, List.setIfInBounds_toArray, List.set_cons_zero, List.set_cons_succ]
  refine wpAnyH_take (i := 1) (oi := ⟨some 37, _, _, _, _, _⟩) (v := ?_) rfl (by kernel_rfl) (by kernel_rfl) (by kernel_rfl) (fun _ _ _ h => h) (Or.inl ⟨by rfl, (by intro w hSw; (try dsimp only at hSw); go_simp; try with_reducible rfl)⟩) hHeld ?_
  try simp only [Act.put, List.setIfInBounds_toArray, List.set_cons_zero, List.set_cons_succ]
  refine wpAnyH_ready (rs := [2]) (by kernel_rfl) (by simp) ?_
  refine AllReadyH.cons (o := ⟨some 38, _, _, _, _, _⟩) rfl (fun K hK => ?_) AllReadyH.nil
  go_simp
  refine hE.mono ?_
  rintro e w' ⟨rfl, rfl⟩
  have hS2 := hHeld
  refine hK.out _ _ hS2 (fun hHeld => ?_)
  clear hK K
  try simp only [Act.put, List.setIfInBounds_toArray, List.set_cons_zero, List.set_cons_succ]
  refine wpAnyH_take (i := 3) (oi := ⟨some 39, _, _, _, _, _⟩) (v := ?_) rfl (by kernel_rfl) (by kernel_rfl) (by kernel_rfl) (fun _ _ _ h => h) (Or.inl ⟨by rfl, (by intro w hSw; (try dsimp only at hSw); go_simp; try with_reducible rfl)⟩) hHeld ?_
  try simp only [Act.put, List.setIfInBounds_toArray, List.set_cons_zero, List.set_cons_succ]
  refine wpAnyH_take (i := 4) (oi := ⟨some 40, _, _, _, _, _⟩) (v := ?_) rfl (by kernel_rfl) (by kernel_rfl) (by kernel_rfl) (fun _ _ _ h => h) (Or.inl ⟨by rfl, (by intro w hSw; (try dsimp only at hSw); go_simp; try with_reducible rfl)⟩) hHeld ?_
  try simp only [Act.put, List.setIfInBounds_toArray, List.set_cons_zero, List.set_cons_succ]
  refine wpAnyH_take (i := 5) (oi := ⟨some 41, _, _, _, _, _⟩) (v := ?_) rfl (by kernel_rfl) (by kernel_rfl) (by kernel_rfl) (fun _ _ _ h => h) (Or.inl ⟨by rfl, (by intro w hSw; (try dsimp only at hSw); go_simp; try with_reducible rfl)⟩) hHeld ?_
  try simp only [Act.put, List.setIfInBounds_toArray, List.set_cons_zero, List.set_cons_succ]
  refine wpAnyH_take (i := 6) (oi := ⟨some 42, _, _, _, _, _⟩) (v := ?_) rfl (by kernel_rfl) (by kernel_rfl) (by kernel_rfl) (fun _ _ _ h => h) (Or.inl ⟨by rfl, (by intro w hSw; (try dsimp only at hSw); go_simp; try with_reducible rfl)⟩) hHeld ?_
  try simp only [Act.put, List.setIfInBounds_toArray, List.set_cons_zero, List.set_cons_succ]
  refine wpAnyH_take (i := 7) (oi := ⟨some 43, _, _, _, _, _⟩) (v := ?_) rfl (by kernel_rfl) (by kernel_rfl) (by kernel_rfl) (fun _ _ _ h => h) (Or.inl ⟨by rfl, (by intro w hSw; (try dsimp only at hSw); go_simp; try with_reducible rfl)⟩) hHeld ?_
  try simp only [Act.put, List.setIfInBounds_toArray, List.set_cons_zero, List.set_cons_succ]
  refine wpAnyH_take (i := 8) (oi := ⟨some 44, _, _, _, _, _⟩) (v := ?_) rfl (by kernel_rfl) (by kernel_rfl) (by kernel_rfl) (fun _ _ _ h => h) (Or.inl ⟨by rfl, (by intro w hSw; (try dsimp only at hSw); go_simp; try with_reducible rfl)⟩) hHeld ?_
  try simp only [Act.put, List.setIfInBounds_toArray, List.set_cons_zero, List.set_cons_succ]
  refine wpAnyH_take (i := 9) (oi := ⟨some 45, _, _, _, _, _⟩) (v := ?_) rfl (by kernel_rfl) (by kernel_rfl) (by kernel_rfl) (fun _ _ _ h => h) (Or.inl ⟨by rfl, (by intro w hSw; (try dsimp only at hSw); go_simp; try with_reducible rfl)⟩) hHeld ?_
  try simp only [Act.put, List.setIfInBounds_toArray, List.set_cons_zero, List.set_cons_succ]
  refine wpAnyH_take (i := 10) (oi := ⟨some 46, _, _, _, _, _⟩) (v := ?_) rfl (by kernel_rfl) (by kernel_rfl) (by kernel_rfl) (fun _ _ _ h => h) (Or.inl ⟨by rfl, (by intro w hSw; (try dsimp only at hSw); go_simp; try with_reducible rfl)⟩) hHeld ?_
  try simp only [Act.put, List.setIfInBounds_toArray, List.set_cons_zero, List.set_cons_succ]
  refine wpAnyH_ready (rs := [11]) (by kernel_rfl) (by simp) ?_
  refine AllReadyH.cons (o := ⟨some 47, _, _, _, _, _⟩) rfl (fun K hK => ?_) AllReadyH.nil
  go_simp
  refine (HRi.out A cap w17 HV17.out).mono ?_
  rintro e w18 ⟨rfl, hb⟩
  have HM18 := HM17.out.below hb
  have HRB18 := HRB17.out.below hb
  have HB18 := Lib.hid (HB17.out.trans (hb.mono HB17.out.size))
  have HV18 := Lib.hid (HV17.out.below hb)
  have hS2 := And.intro (HM18.cell 0) (And.intro (HM18.cell 1) (And.intro (HM18.cell 2) (And.intro (HM18.cell 3) (And.intro (HM18.cell 4) (And.intro (HM18.cell 5) (And.intro (HM18.cell 6) (And.intro (HM18.cell 7) (And.intro (HM18.cell 8) ((HM18.cell 9))))))))))
  have c0 := HRB18.cell 0
  have f0 := HRB18.frozen 0
  have c1 := HRB18.cell 1
  have f1 := HRB18.frozen 1
  have c2 := HRB18.cell 2
  have f2 := HRB18.frozen 2
  have c3 := HRB18.cell 3
  have f3 := HRB18.frozen 3
  have c4 := HRB18.cell 4
  have f4 := HRB18.frozen 4
  have c5 := HRB18.cell 5
  have f5 := HRB18.frozen 5
  have c6 := HRB18.cell 6
  have f6 := HRB18.frozen 6
  have c7 := HRB18.cell 7
  have f7 := HRB18.frozen 7
  have c8 := HRB18.cell 8
  have f8 := HRB18.frozen 8
  have c9 := HRB18.cell 9
  have f9 := HRB18.frozen 9
  refine hK.out _ _ hS2 (fun hHeld => ?_)
  clear hK K
  try simp only [Act.put, List.setIfInBounds_toArray, List.set_cons_zero, List.set_cons_succ]
  refine wpAnyH_take (i := 12) (oi := ⟨some 48, _, _, _, _, _⟩) (v := ?_) rfl (by kernel_rfl) (by kernel_rfl) (by kernel_rfl) (fun _ _ _ h => h) (Or.inl ⟨by rfl, (by intro w hSw; (try dsimp only at hSw); go_simp; try with_reducible rfl)⟩) hHeld ?_
  try simp only [Act.put, List.setIfInBounds_toArray, List.set_cons_zero, List.set_cons_succ]
  refine wpAnyH_ready (rs := [13]) (by kernel_rfl) (by simp) ?_
  refine AllReadyH.cons (o := ⟨none, _, _, _, _, _⟩) rfl (fun K hK => ?_) AllReadyH.nil
  go_simp
  have HM19 := HM18.grown (Only.set (.slice A keys.length cap) 9 ((Only.set (.string (S body)) 8 ((Only.set (.string (S tag)) 7 ((Only.set (.string (S topic)) 6 ((Only.set (.int .i64 born) 5 ((Only.set (.int .i64 ref) 4 ((Only.set (.int .i64 retry) 3 ((Only.set (.int .i64 due) 2 ((Only.set (.int .i64 queue) 1 ((Only.set (.int .i64 kind) 0 (Only.refl (g := w.heap.size) (w := w18))))))))))))))))))))) (fun e => hrm (by injection e))
  have hS2 := And.intro (HM19.cell 0) (And.intro (HM19.cell 1) (And.intro (HM19.cell 2) (And.intro (HM19.cell 3) (And.intro (HM19.cell 4) (And.intro (HM19.cell 5) (And.intro (HM19.cell 6) (And.intro (HM19.cell 7) (And.intro (HM19.cell 8) ((HM19.cell 9))))))))))
  refine hK.out _ _ hS2 (fun hHeld => ?_)
  clear hK K
  try simp only [Act.put, List.setIfInBounds_toArray, List.set_cons_zero, List.set_cons_succ]
  refine wpAnyH_take (i := 14) (oi := ⟨some 3, _, _, _, _, _⟩) (v := ?_) rfl (by kernel_rfl) (by kernel_rfl) (by kernel_rfl) (fun _ _ _ h => h) (Or.inl ⟨by rfl, (by intro w hSw; (try dsimp only at hSw); go_simp; try with_reducible rfl)⟩) hHeld ?_
  try simp only [Act.put, List.setIfInBounds_toArray, List.set_cons_zero, List.set_cons_succ]
  refine wpAnyH_done (by kernel_rfl) ?_ _
  have hx := ((((((((((HRB18.set 0 (.int .i64 kind)).set 1 (.int .i64 queue)).set 2 (.int .i64 due)).set 3 (.int .i64 retry)).set 4 (.int .i64 ref)).set 5 (.int .i64 born)).set 6 (.string (S topic))).set 7 (.string (S tag))).set 8 (.string (S body))).set 9 (.slice A keys.length cap))
  simp only [List.setIfInBounds_toArray, List.set_cons_zero, List.set_cons_succ] at hx
  have HRB19 := hx
  clear hx
  have HB19 := Lib.hid ((((((((((HB18.out.setCell (p := ⟨w.heap.size, 0, none⟩) (Nat.le_refl _) (.int .i64 kind)).setCell (p := ⟨w.heap.size, 1, none⟩) (Nat.le_refl _) (.int .i64 queue)).setCell (p := ⟨w.heap.size, 2, none⟩) (Nat.le_refl _) (.int .i64 due)).setCell (p := ⟨w.heap.size, 3, none⟩) (Nat.le_refl _) (.int .i64 retry)).setCell (p := ⟨w.heap.size, 4, none⟩) (Nat.le_refl _) (.int .i64 ref)).setCell (p := ⟨w.heap.size, 5, none⟩) (Nat.le_refl _) (.int .i64 born)).setCell (p := ⟨w.heap.size, 6, none⟩) (Nat.le_refl _) (.string (S topic))).setCell (p := ⟨w.heap.size, 7, none⟩) (Nat.le_refl _) (.string (S tag))).setCell (p := ⟨w.heap.size, 8, none⟩) (Nat.le_refl _) (.string (S body))).setCell (p := ⟨w.heap.size, 9, none⟩) (Nat.le_refl _) (.slice A keys.length cap))
  have HV19 := Lib.hid (HV18.out.gr (((((((((((Gr.refl (fun k => k = w.heap.size) w18).set (p := ⟨w.heap.size, 0, none⟩) (.inl rfl) (.int .i64 kind)).set (p := ⟨w.heap.size, 1, none⟩) (.inl rfl) (.int .i64 queue)).set (p := ⟨w.heap.size, 2, none⟩) (.inl rfl) (.int .i64 due)).set (p := ⟨w.heap.size, 3, none⟩) (.inl rfl) (.int .i64 retry)).set (p := ⟨w.heap.size, 4, none⟩) (.inl rfl) (.int .i64 ref)).set (p := ⟨w.heap.size, 5, none⟩) (.inl rfl) (.int .i64 born)).set (p := ⟨w.heap.size, 6, none⟩) (.inl rfl) (.string (S topic))).set (p := ⟨w.heap.size, 7, none⟩) (.inl rfl) (.string (S tag))).set (p := ⟨w.heap.size, 8, none⟩) (.inl rfl) (.string (S body))).set (p := ⟨w.heap.size, 9, none⟩) (.inl rfl) (.slice A keys.length cap)) (fun b o e e2 => by have := hAb b o e; omega))
  clear hHeld hS2 HM18 HM19 HRB18 HRB17 HM17 c0 f0 c1 f1 c2 f2 c3 f3 c4 f4 c5 f5 c6 f6 c7 f7 c8 f8 c9 f9
  go_wp2_with (fail)
  generalize ((((((((((w18.setCell ⟨w.heap.size, 0, none⟩ (.int .i64 kind)).setCell ⟨w.heap.size, 1, none⟩ (.int .i64 queue)).setCell ⟨w.heap.size, 2, none⟩ (.int .i64 due)).setCell ⟨w.heap.size, 3, none⟩ (.int .i64 retry)).setCell ⟨w.heap.size, 4, none⟩ (.int .i64 ref)).setCell ⟨w.heap.size, 5, none⟩ (.int .i64 born)).setCell ⟨w.heap.size, 6, none⟩ (.string (S topic))).setCell ⟨w.heap.size, 7, none⟩ (.string (S tag))).setCell ⟨w.heap.size, 8, none⟩ (.string (S body))).setCell ⟨w.heap.size, 9, none⟩ (.slice A keys.length cap)) = w19 at *
  have y0 := HRB19.cell 0
  have y1 := HRB19.cell 1
  have y2 := HRB19.cell 2
  have y3 := HRB19.cell 3
  have y4 := HRB19.cell 4
  have y5 := HRB19.cell 5
  have y6 := HRB19.cell 6
  have y7 := HRB19.cell 7
  have y8 := HRB19.cell 8
  have y9 := HRB19.cell 9
  exact bodyPost_ret (v := .tuple #[.agg #[.int .i64 kind, .int .i64 queue, .int .i64 due, .int .i64 retry, .int .i64 ref, .int .i64 born, .string (S topic), .string (S tag), .string (S body), .slice A keys.length cap], .bool true]) (by simp [results, Tryz.results75, go_sem, y0, y1, y2, y3, y4, y5, y6, y7, y8, y9]) rfl ⟨A, cap, rfl, HV19.out, HB19.out, fun b o e => by have := hAb b o e; omega⟩

end Go.Proofs.YtnacjogdndggeaaGreatDoor
end

section
namespace Go.Proofs.YtnacjogdndggeaaGreatDoor
open Go.Shelf Go.RowKit Go.Lib
set_option maxRecDepth 100000
set_option maxHeartbeats 1000000

theorem time_good (b : Nat) (now : Int) (w : World) (h : Blk w b #[.int .i64 now] 3) (h0 : 0 ≤ now) (h1 : now ≤ 1099511626776) :
    Calls Tryz.prog 88 #[.slice (some ⟨b, 0, none⟩) 1 1] w fun e w' => e = .returned (.bool true) ∧ w = w' := by
  have c0 := h.cell 0
  have i1 : ¬ now < 0 := by omega
  have i2 : ¬ (1099511626776 : Int) < now := by omega
  clear h
  go_enter Tryz.func88, Tryz.ntmps88
  go_wp2
  refine wp_loop_rounds 2 ?_
  rw [rounds_succ]
  go_wp2
  rw [rounds_succ]
  go_wp2
  go_ret
  exact ⟨rfl, rfl⟩

theorem LDue_late (a now : Int) (w : World) (h0 : 0 ≤ now) (h1 : now ≤ 1099511626776) (h : now + 200 < a) :
    Calls Tryz.prog 43 #[.int .i64 a, .int .i64 now] w fun e w' => e = .returned (.tuple #[.int .i64 0, .int .i64 15]) ∧ Below w.heap.size w w' := by
  have hT := time_good w.heap.size now (w.alloc (.cells #[.int .i64 now] 3)) (Blk.new w _ _) h0 h1
  have HB := Lib.hid ((Below.refl w.heap.size w).alloc (Nat.le_refl _) (.cells #[.int .i64 now] 3))
  have hwr : wrap64 (now + 200) = now + 200 := IntWalk.wrap64_in _ (by omega)
  go_enter Tryz.func43, Tryz.ntmps43
  go_wp2_with (fail)
  refine hT.mono ?_
  rintro e w' ⟨rfl, rfl⟩
  go_wp2_with (fail)
  go_ret2
  exact ⟨rfl, HB.out⟩

theorem LDue_good (a now : Int) (w : World) (h0 : 0 ≤ now) (h1 : now ≤ 1099511626776) (h : a ≤ now + 200) :
    Calls Tryz.prog 43 #[.int .i64 a, .int .i64 now] w fun e w' => e = .returned (.tuple #[.int .i64 (max a now), .int .i64 0]) ∧ Below w.heap.size w w' := by
  have hT := time_good w.heap.size now (w.alloc (.cells #[.int .i64 now] 3)) (Blk.new w _ _) h0 h1
  have HB := Lib.hid ((Below.refl w.heap.size w).alloc (Nat.le_refl _) (.cells #[.int .i64 now] 3))
  have hwr : wrap64 (now + 200) = now + 200 := IntWalk.wrap64_in _ (by omega)
  have i1 : ¬ now + 200 < a := by omega
  have i2 : decide (now + 200 < a) = false := decide_eq_false i1
  go_enter Tryz.func43, Tryz.ntmps43
  go_wp2_with (fail)
  refine hT.mono ?_
  rintro e w' ⟨rfl, rfl⟩
  go_wp2_with (fail)
  go_ret2
  exact ⟨rfl, HB.out⟩

theorem Note_message {p k : Nat} {w : World} {m : Rec} {A : Option Addr} (id : Int) (h0 : 0 ≤ id) (hk : m.kind = 1) :
    Calls Tryz.prog 85 #[.pointer (some ⟨p, 0, none⟩), .int .i64 id, .agg (recV m A k)] w fun e w' => e = .returned (.bool false) ∧ Below w.heap.size w w' := by
  have HB := Lib.hid ((Below.refl w.heap.size w).alloc (Nat.le_refl _) (.cells (recV m A k) 56))
  have hbn := Blk.new w (recV m A k) 56
  have i0 : ¬ id < 0 := by omega
  simp only [recV] at *
  rw [hk] at *
  go_enter Tryz.func85, Tryz.ntmps85
  go_upto_region 1 with (fail)
  generalize w.alloc (.cells #[.int .i64 1, .int .i64 m.queue, .int .i64 m.due, .int .i64 m.retry, .int .i64 m.ref, .int .i64 m.born, .string (S m.topic), .string (S m.tag), .string (S m.body), .slice A m.keys.length k] 56) = w1 at *
  have e0 := hbn.cell 0
  clear hbn
  go_wp2_with (fail)
  go_ret
  exact ⟨rfl, HB.out⟩

/-- No element of what is pending, compared with none. -/
theorem equal_one (dd : Nat) (w : World) : (Op.equalIn (dd + 2) 107 (.agg #[.int .i64 0, .int .i64 0]) (.agg #[.int .i64 0, .int .i64 0])).run Tryz.prog w = .ok true w := by
  have e : ∀ (dd : Nat) (x : Int) (w : World), (Op.equalIn (dd + 1) 3 (.int .i64 x) (.int .i64 x)).run Tryz.prog w = .ok true w := fun dd x w => by
    rw [run_equalIn_int w dd 3 .i64 .i64 x x Tryz.underlying3]
    simp
  have h2 := e dd 0
  have u3 := Tryz.underlying3
  have a3 := Tryz.isAgg3
  have z3 := Tryz.sizeOf3
  have hS : Tryz.prog.underlying 107 = some (.struct (Tryz.prog.fieldsOf 107)) := by kernel_rfl
  have hp : Tryz.prog.stoodInHeld 107 = false := by kernel_rfl
  rw [show dd + 2 = (dd + 1) + 1 from rfl, run_equalIn_agg w (dd + 1) 107 _ _ hS hp]
  simp only [Program.fieldsOf, Tryz.underlying107]
  go_simp

theorem eql_one (w : World) : (binOp .eql 107 (.agg #[.int .i64 0, .int .i64 0]) (.agg #[.int .i64 0, .int .i64 0])).run Tryz.prog w = .ok (.bool true) w := by
  have hn := run_eql_struct (P := Tryz.prog) w 107 #[.int .i64 0, .int .i64 0] #[.int .i64 0, .int .i64 0]
  have he := equal_one 9998 w
  rw [show 9998 + 2 = 10000 from rfl] at he
  generalize (Op.equalIn 10000 107 (.agg #[.int .i64 0, .int .i64 0]) (.agg #[.int .i64 0, .int .i64 0])).run Tryz.prog w = res at *
  subst he
  exact hn

end Go.Proofs.YtnacjogdndggeaaGreatDoor
end
