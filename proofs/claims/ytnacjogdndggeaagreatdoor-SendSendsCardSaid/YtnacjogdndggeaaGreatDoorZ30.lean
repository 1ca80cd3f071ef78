/- Layer 21 (store): replay where there is nothing to replay. -/
import Derived.Test.YtnacjogdndggeaaGreatDoorZ29
import Derived.Test.YtnacjogdndggeaaGreatDoorZ27
import Derived.Test.YtnacjogdndggeaaGreatDoorZ28
section
namespace Go.Proofs.YtnacjogdndggeaaGreatDoor
open Go.Shelf Go.RowKit Go.Lib
set_option maxRecDepth 100000
set_option maxHeartbeats 1000000

/-- Dispatcher 12, enqueuer 13, dequeuer 14. -/
theorem replay_none {χ : Col} {s mn pd tp tb gr qs ix tm : Nat} {now : Int} {D : Dsk} {T : TapeM} {w : World}
    (hs : CBlk χ 7 w s #[ptr tp, ptr qs, ptr ix, ptr tb, ptr gr, ptr tm, ptr pd, .pointer none, .pointer none, .pointer none, ptr mn, .int .i64 now] 51)
    (hd : IsDk χ 1 w mn D) (hf : D.file baseN = none) (hT : IsTape χ 3 4 w tp mn T) (hr : T.recs = []) (hz : T.row.many = 0 → T.row.begin = 0) :
    Calls Tryz.prog 57 #[ptr s] w fun e w' => e = .returned (.int .i64 0) ∧ ∃ ds en dq χ', Stp (fun k => k = 7 ∨ k = 13 ∨ k = 14) χ w χ' w' ∧
      CBlk χ' 7 w' s #[ptr tp, ptr qs, ptr ix, ptr tb, ptr gr, ptr tm, ptr pd, ptr ds, ptr en, ptr dq, ptr mn, .int .i64 now] 51 ∧
      IsDisp χ' 12 w' ds tp qs ix T.row.begin ∧ IsEnq χ' 13 w' en tp pd tm T.row.begin ∧ IsDeq χ' 14 w' dq tp pd tm := by
  have hL := loaded_none hd hf
  have c10 := hs.1.cell 10
  have HS := Lib.hid hs
  have HT := Lib.hid hT
  clear hs hd hT
  unfold ptr at *
  go_enter Tryz.func57, Tryz.ntmps57
  go_wp2_with (fail)
  refine hL.mono ?_
  rintro e w1 ⟨rfl, hb⟩
  have HS1 := Lib.hid (HS.out.stp (C := fun _ => False) (Stp.of_below hb) (fun h => h))
  have HT1 := Lib.hid (HT.out.stp (C := fun _ => False) (Stp.of_below hb) (fun h => h) (fun h => h))
  have HB1 := Lib.hid hb
  clear hb hL HS HT c10
  go_wp2_with (fail)
  have hB2 := (Below.refl w1.heap.size w1).alloc (Nat.le_refl _) (.cells #[.int .i64 0, .slice none 0 0] 162)
  have HS2 := Lib.hid (HS1.out.stp (C := fun _ => False) (Stp.of_below hB2) (fun h => h))
  have HT2 := Lib.hid (HT1.out.stp (C := fun _ => False) (Stp.of_below hB2) (fun h => h) (fun h => h))
  have HB2 := Lib.hid (HB1.out.trans (hB2.mono HB1.out.size))
  generalize w1.alloc (.cells #[.int .i64 0, .slice none 0 0] 162) = w2 at *
  clear hB2 HS1 HT1 HB1
  have c0 := HS2.out.1.cell 0
  refine wp_loop_rounds 1 ?_
  rw [rounds_succ]
  go_wp2_with (fail)
  refine (Ids_none HT2.out hr 0).mono ?_
  rintro e w3 ⟨A, cap, rfl, hb⟩
  have HS3 := Lib.hid (HS2.out.stp (C := fun _ => False) (Stp.of_below hb) (fun h => h))
  have HT3 := Lib.hid (HT2.out.stp (C := fun _ => False) (Stp.of_below hb) (fun h => h) (fun h => h))
  have HP3 := Lib.hid (Stp.of_below (C := fun k => k = 7 ∨ k = 13 ∨ k = 14) (χ := χ) (HB2.out.trans (hb.mono HB2.out.size)))
  clear hb c0 HS2 HT2 HB2
  go_wp2_with (fail)
  refine wp_loop_rounds 1 ?_
  rw [rounds_succ]
  go_wp2_with (fail)
  have hb := below_drewN w3 1
  have HS4 := Lib.hid (HS3.out.stp (C := fun _ => False) (Stp.of_below hb) (fun h => h))
  have HT4 := Lib.hid (HT3.out.stp (C := fun _ => False) (Stp.of_below hb) (fun h => h) (fun h => h))
  have HP4 := Lib.hid (HP3.out.trans (Stp.of_below hb))
  have e0 := And.intro (HS4.out.1.cell 0) (And.intro (HS4.out.1.cell 1) (HS4.out.1.cell 2))
  refine wp_region_held_drew (S := fun w' => w'.cell? ⟨s, 0, none⟩ = some (.pointer (some ⟨tp, 0, none⟩)) ∧ w'.cell? ⟨s, 1, none⟩ = some (.pointer (some ⟨qs, 0, none⟩)) ∧ w'.cell? ⟨s, 2, none⟩ = some (.pointer (some ⟨ix, 0, none⟩))) (by kernel_rfl) e0 (fun hHeld => ?_)
  rw [show w3.drewN 1 = w3.drew from rfl] at *
  generalize w3.drew = w4 at *
  clear hb e0 HS3 HT3 HP3
  refine wpAnyH_take (i := 0) (oi := ⟨some 80, _, _, _, _, _⟩) (v := ?_) rfl (by kernel_rfl) (by kernel_rfl) (by kernel_rfl) (fun _ _ _ h => h) (Or.inl ⟨by rfl, (by intro w hSw; (try dsimp only at hSw); go_simp; try with_reducible rfl)⟩) hHeld ?_
  try simp only [Act.put, List.setIfInBounds_toArray, List.set_cons_zero, List.set_cons_succ]
  refine wpAnyH_take (i := 1) (oi := ⟨some 81, _, _, _, _, _⟩) (v := ?_) rfl (by kernel_rfl) (by kernel_rfl) (by kernel_rfl) (fun _ _ _ h => h) (Or.inl ⟨by rfl, (by intro w hSw; (try dsimp only at hSw); go_simp; try with_reducible rfl)⟩) hHeld ?_
  try simp only [Act.put, List.setIfInBounds_toArray, List.set_cons_zero, List.set_cons_succ]
  refine wpAnyH_take (i := 5) (oi := ⟨some 85, _, _, _, _, _⟩) (v := ?_) rfl (by kernel_rfl) (by kernel_rfl) (by kernel_rfl) (fun _ _ _ h => h) (Or.inl ⟨by rfl, (by intro w hSw; (try dsimp only at hSw); go_simp; try with_reducible rfl)⟩) hHeld ?_
  try simp only [Act.put, List.setIfInBounds_toArray, List.set_cons_zero, List.set_cons_succ]
  refine wpAnyH_take (i := 9) (oi := ⟨some 89, _, _, _, _, _⟩) (v := ?_) rfl (by kernel_rfl) (by kernel_rfl) (by kernel_rfl) (fun _ _ _ h => h) (Or.inl ⟨by rfl, (by intro w hSw; (try dsimp only at hSw); go_simp; try with_reducible rfl)⟩) hHeld ?_
  try simp only [Act.put, List.setIfInBounds_toArray, List.set_cons_zero, List.set_cons_succ]
  refine wpAnyH_take (i := 2) (oi := ⟨some 82, _, _, _, _, _⟩) (v := ?_) rfl (by kernel_rfl) (by kernel_rfl) (by kernel_rfl) (fun _ _ _ h => h) (Or.inl ⟨by rfl, (by intro w hSw; (try dsimp only at hSw); go_simp; try with_reducible rfl)⟩) hHeld ?_
  try simp only [Act.put, List.setIfInBounds_toArray, List.set_cons_zero, List.set_cons_succ]
  refine wpAnyH_take (i := 6) (oi := ⟨some 86, _, _, _, _, _⟩) (v := ?_) rfl (by kernel_rfl) (by kernel_rfl) (by kernel_rfl) (fun _ _ _ h => h) (Or.inl ⟨by rfl, (by intro w hSw; (try dsimp only at hSw); go_simp; try with_reducible rfl)⟩) hHeld ?_
  try simp only [Act.put, List.setIfInBounds_toArray, List.set_cons_zero, List.set_cons_succ]
  refine wpAnyH_take (i := 10) (oi := ⟨some 90, _, _, _, _, _⟩) (v := ?_) rfl (by kernel_rfl) (by kernel_rfl) (by kernel_rfl) (fun _ _ _ h => h) (Or.inl ⟨by rfl, (by intro w hSw; (try dsimp only at hSw); go_simp; try with_reducible rfl)⟩) hHeld ?_
  try simp only [Act.put, List.setIfInBounds_toArray, List.set_cons_zero, List.set_cons_succ]
  refine wpAnyH_take (i := 3) (oi := ⟨some 83, _, _, _, _, _⟩) (v := ?_) rfl (by kernel_rfl) (by kernel_rfl) (by kernel_rfl) (fun _ _ _ h => h) (Or.inl ⟨by rfl, (by intro w hSw; (try dsimp only at hSw); go_simp; try with_reducible rfl)⟩) hHeld ?_
  try simp only [Act.put, List.setIfInBounds_toArray, List.set_cons_zero, List.set_cons_succ]
  refine wpAnyH_take (i := 7) (oi := ⟨some 87, _, _, _, _, _⟩) (v := ?_) rfl (by kernel_rfl) (by kernel_rfl) (by kernel_rfl) (fun _ _ _ h => h) (Or.inl ⟨by rfl, (by intro w hSw; (try dsimp only at hSw); go_simp; try with_reducible rfl)⟩) hHeld ?_
  try simp only [Act.put, List.setIfInBounds_toArray, List.set_cons_zero, List.set_cons_succ]
  refine wpAnyH_take (i := 11) (oi := ⟨some 91, _, _, _, _, _⟩) (v := ?_) rfl (by kernel_rfl) (by kernel_rfl) (by kernel_rfl) (fun _ _ _ h => h) (Or.inl ⟨by rfl, (by intro w hSw; (try dsimp only at hSw); go_simp; try with_reducible rfl)⟩) hHeld ?_
  try simp only [Act.put, List.setIfInBounds_toArray, List.set_cons_zero, List.set_cons_succ]
  refine wpAnyH_take (i := 4) (oi := ⟨some 84, _, _, _, _, _⟩) (v := ?_) rfl (by kernel_rfl) (by kernel_rfl) (by kernel_rfl) (fun _ _ _ h => h) (Or.inl ⟨by rfl, (by intro w hSw; (try dsimp only at hSw); go_simp; try with_reducible rfl)⟩) hHeld ?_
  try simp only [Act.put, List.setIfInBounds_toArray, List.set_cons_zero, List.set_cons_succ]
  refine wpAnyH_take (i := 8) (oi := ⟨some 88, _, _, _, _, _⟩) (v := ?_) rfl (by kernel_rfl) (by kernel_rfl) (by kernel_rfl) (fun _ _ _ h => h) (Or.inl ⟨by rfl, (by intro w hSw; (try dsimp only at hSw); go_simp; try with_reducible rfl)⟩) hHeld ?_
  try simp only [Act.put, List.setIfInBounds_toArray, List.set_cons_zero, List.set_cons_succ]
  refine wpAnyH_take (i := 12) (oi := ⟨some 92, _, _, _, _, _⟩) (v := ?_) rfl (by kernel_rfl) (by kernel_rfl) (by kernel_rfl) (fun _ _ _ h => h) (Or.inl ⟨by rfl, (by intro w hSw; (try dsimp only at hSw); go_simp; try with_reducible rfl)⟩) hHeld ?_
  try simp only [Act.put, List.setIfInBounds_toArray, List.set_cons_zero, List.set_cons_succ]
  refine wpAnyH_ready (rs := [13]) (by kernel_rfl) (by simp) ?_
  refine AllReadyH.cons (o := ⟨some 93, _, _, _, _, _⟩) rfl (fun K hK => ?_) AllReadyH.nil
  go_simp
  refine (dispNew_any 12 qs ix HT4.out hz).mono ?_
  rintro e w5 ⟨ds, χ5, rfl, s5, hds⟩
  have HS5 := Lib.hid (HS4.out.stp s5 (fun h => h))
  have HT5 := Lib.hid (HT4.out.stp s5 (fun h => h) (fun h => h))
  have HQds5 := Lib.hid hds
  have c7 := HS5.out.1.cell 7
  have f7 := HS5.out.1.frozen 7
  have hS2 := And.intro (HS5.out.1.cell 0) (And.intro (HS5.out.1.cell 1) (HS5.out.1.cell 2))
  refine hK.out _ _ hS2 (fun hHeld => ?_)
  clear hK K
  try simp only [Act.put, List.setIfInBounds_toArray, List.set_cons_zero, List.set_cons_succ]
  refine wpAnyH_take (i := 14) (oi := ⟨some 79, _, _, _, _, _⟩) (v := ?_) rfl (by kernel_rfl) (by kernel_rfl) (by kernel_rfl) (fun _ _ _ h => h) (Or.inl ⟨by rfl, (by intro w hSw; (try dsimp only at hSw); go_simp; try with_reducible rfl)⟩) hHeld ?_
  try simp only [Act.put, List.setIfInBounds_toArray, List.set_cons_zero, List.set_cons_succ]
  refine wpAnyH_take (i := 15) (oi := ⟨some 94, _, _, _, _, _⟩) (v := ?_) rfl (by kernel_rfl) (by kernel_rfl) (by kernel_rfl) (fun _ _ _ h => h) (Or.inl ⟨by rfl, (by intro w hSw; (try dsimp only at hSw); go_simp; try with_reducible rfl)⟩) hHeld ?_
  try simp only [Act.put, List.setIfInBounds_toArray, List.set_cons_zero, List.set_cons_succ]
  refine wpAnyH_take (i := 16) (oi := ⟨some 95, _, _, _, _, _⟩) (v := ?_) rfl (by kernel_rfl) (by kernel_rfl) (by kernel_rfl) (fun _ _ _ h => h) (Or.inl ⟨by rfl, (by intro w hSw; (try dsimp only at hSw); go_simp; try with_reducible rfl)⟩) hHeld ?_
  try simp only [Act.put, List.setIfInBounds_toArray, List.set_cons_zero, List.set_cons_succ]
  refine wpAnyH_take (i := 17) (oi := ⟨some 96, _, _, _, _, _⟩) (v := ?_) rfl (by kernel_rfl) (by kernel_rfl) (by kernel_rfl) (fun _ _ _ h => h) (Or.inl ⟨by rfl, (by intro w hSw; (try dsimp only at hSw); go_simp; try with_reducible rfl)⟩) hHeld ?_
  try simp only [Act.put, List.setIfInBounds_toArray, List.set_cons_zero, List.set_cons_succ]
  refine wpAnyH_take (i := 18) (oi := ⟨some 97, _, _, _, _, _⟩) (v := ?_) rfl (by kernel_rfl) (by kernel_rfl) (by kernel_rfl) (fun _ _ _ h => h) (Or.inl ⟨by rfl, (by intro w hSw; (try dsimp only at hSw); go_simp; try with_reducible rfl)⟩) hHeld ?_
  try simp only [Act.put, List.setIfInBounds_toArray, List.set_cons_zero, List.set_cons_succ]
  refine wpAnyH_ready (rs := [19]) (by kernel_rfl) (by simp) ?_
  refine AllReadyH.cons (o := ⟨none, _, _, _, _, _⟩) rfl (fun K hK => ?_) AllReadyH.nil
  go_simp
  have hB5 := HS5.out.1.set 7 (.pointer (some ⟨ds, 0, none⟩))
  have hS2 := And.intro (hB5.cell 0) (And.intro (hB5.cell 1) (hB5.cell 2))
  refine hK.out _ _ hS2 (fun hHeld => ?_)
  clear hK K
  try simp only [Act.put, List.setIfInBounds_toArray, List.set_cons_zero, List.set_cons_succ]
  refine wpAnyH_done (by kernel_rfl) ?_ _
  have st := (Stp.refl (· = 7) χ5 w5).set (p := ⟨s, 7, none⟩) (.inl HS5.out.2) (.pointer (some ⟨ds, 0, none⟩))
  have HS6 := Lib.hid (show CBlk χ5 7 _ s _ _ from ⟨hB5, HS5.out.2⟩)
  have HT6 := Lib.hid (HT5.out.stp st (by decide) (by decide))
  have HP6 := Lib.hid ((HP4.out.trans (s5.mono fun k hk => hk.elim)).trans (st.mono fun k hk => Or.inl hk))
  have HQds6 := Lib.hid (CBlk.stp HQds5.out st (by decide))
  clear hHeld hS2 c7 f7 hB5 s5 hds st HS4 HT4 HP4 HS5 HT5 HQds5
  generalize w5.setCell ⟨s, 7, none⟩ (.pointer (some ⟨ds, 0, none⟩)) = w6 at *
  go_wp2_with (fail)
  have hb := below_drewN w6 1
  have HS7 := Lib.hid (HS6.out.stp (C := fun _ => False) (Stp.of_below hb) (fun h => h))
  have HT7 := Lib.hid (HT6.out.stp (C := fun _ => False) (Stp.of_below hb) (fun h => h) (fun h => h))
  have HP7 := Lib.hid (HP6.out.trans (Stp.of_below hb))
  have HQds7 := Lib.hid (CBlk.stp (C := fun _ => False) HQds6.out (Stp.of_below hb) (fun h => h))
  have e0 := And.intro (HS7.out.1.cell 0) (And.intro (HS7.out.1.cell 6) (HS7.out.1.cell 5))
  refine wp_region_held_drew (S := fun w' => w'.cell? ⟨s, 0, none⟩ = some (.pointer (some ⟨tp, 0, none⟩)) ∧ w'.cell? ⟨s, 6, none⟩ = some (.pointer (some ⟨pd, 0, none⟩)) ∧ w'.cell? ⟨s, 5, none⟩ = some (.pointer (some ⟨tm, 0, none⟩))) (by kernel_rfl) e0 (fun hHeld => ?_)
  rw [show w6.drewN 1 = w6.drew from rfl] at *
  generalize w6.drew = w7 at *
  clear hb e0 HS6 HT6 HP6 HQds6
  refine wpAnyH_take (i := 0) (oi := ⟨some 99, _, _, _, _, _⟩) (v := ?_) rfl (by kernel_rfl) (by kernel_rfl) (by kernel_rfl) (fun _ _ _ h => h) (Or.inl ⟨by rfl, (by intro w hSw; (try dsimp only at hSw); go_simp; try with_reducible rfl)⟩) hHeld ?_
  try simp only [Act.put, List.setIfInBounds_toArray, List.set_cons_zero, List.set_cons_succ]
  refine wpAnyH_take (i := 1) (oi := ⟨some 100, _, _, _, _, _⟩) (v := ?_) rfl (by kernel_rfl) (by kernel_rfl) (by kernel_rfl) (fun _ _ _ h => h) (Or.inl ⟨by rfl, (by intro w hSw; (try dsimp only at hSw); go_simp; try with_reducible rfl)⟩) hHeld ?_
  try simp only [Act.put, List.setIfInBounds_toArray, List.set_cons_zero, List.set_cons_succ]
  refine wpAnyH_take (i := 5) (oi := ⟨some 104, _, _, _, _, _⟩) (v := ?_) rfl (by kernel_rfl) (by kernel_rfl) (by kernel_rfl) (fun _ _ _ h => h) (Or.inl ⟨by rfl, (by intro w hSw; (try dsimp only at hSw); go_simp; try with_reducible rfl)⟩) hHeld ?_
  try simp only [Act.put, List.setIfInBounds_toArray, List.set_cons_zero, List.set_cons_succ]
  refine wpAnyH_take (i := 9) (oi := ⟨some 108, _, _, _, _, _⟩) (v := ?_) rfl (by kernel_rfl) (by kernel_rfl) (by kernel_rfl) (fun _ _ _ h => h) (Or.inl ⟨by rfl, (by intro w hSw; (try dsimp only at hSw); go_simp; try with_reducible rfl)⟩) hHeld ?_
  try simp only [Act.put, List.setIfInBounds_toArray, List.set_cons_zero, List.set_cons_succ]
  refine wpAnyH_take (i := 2) (oi := ⟨some 101, _, _, _, _, _⟩) (v := ?_) rfl (by kernel_rfl) (by kernel_rfl) (by kernel_rfl) (fun _ _ _ h => h) (Or.inl ⟨by rfl, (by intro w hSw; (try dsimp only at hSw); go_simp; try with_reducible rfl)⟩) hHeld ?_
  try simp only [Act.put, List.setIfInBounds_toArray, List.set_cons_zero, List.set_cons_succ]
  refine wpAnyH_take (i := 6) (oi := ⟨some 105, _, _, _, _, _⟩) (v := ?_) rfl (by kernel_rfl) (by kernel_rfl) (by kernel_rfl) (fun _ _ _ h => h) (Or.inl ⟨by rfl, (by intro w hSw; (try dsimp only at hSw); go_simp; try with_reducible rfl)⟩) hHeld ?_
  try simp only [Act.put, List.setIfInBounds_toArray, List.set_cons_zero, List.set_cons_succ]
  refine wpAnyH_take (i := 10) (oi := ⟨some 109, _, _, _, _, _⟩) (v := ?_) rfl (by kernel_rfl) (by kernel_rfl) (by kernel_rfl) (fun _ _ _ h => h) (Or.inl ⟨by rfl, (by intro w hSw; (try dsimp only at hSw); go_simp; try with_reducible rfl)⟩) hHeld ?_
  try simp only [Act.put, List.setIfInBounds_toArray, List.set_cons_zero, List.set_cons_succ]
  refine wpAnyH_take (i := 3) (oi := ⟨some 102, _, _, _, _, _⟩) (v := ?_) rfl (by kernel_rfl) (by kernel_rfl) (by kernel_rfl) (fun _ _ _ h => h) (Or.inl ⟨by rfl, (by intro w hSw; (try dsimp only at hSw); go_simp; try with_reducible rfl)⟩) hHeld ?_
  try simp only [Act.put, List.setIfInBounds_toArray, List.set_cons_zero, List.set_cons_succ]
  refine wpAnyH_take (i := 7) (oi := ⟨some 106, _, _, _, _, _⟩) (v := ?_) rfl (by kernel_rfl) (by kernel_rfl) (by kernel_rfl) (fun _ _ _ h => h) (Or.inl ⟨by rfl, (by intro w hSw; (try dsimp only at hSw); go_simp; try with_reducible rfl)⟩) hHeld ?_
  try simp only [Act.put, List.setIfInBounds_toArray, List.set_cons_zero, List.set_cons_succ]
  refine wpAnyH_take (i := 11) (oi := ⟨some 110, _, _, _, _, _⟩) (v := ?_) rfl (by kernel_rfl) (by kernel_rfl) (by kernel_rfl) (fun _ _ _ h => h) (Or.inl ⟨by rfl, (by intro w hSw; (try dsimp only at hSw); go_simp; try with_reducible rfl)⟩) hHeld ?_
  try simp only [Act.put, List.setIfInBounds_toArray, List.set_cons_zero, List.set_cons_succ]
  refine wpAnyH_take (i := 4) (oi := ⟨some 103, _, _, _, _, _⟩) (v := ?_) rfl (by kernel_rfl) (by kernel_rfl) (by kernel_rfl) (fun _ _ _ h => h) (Or.inl ⟨by rfl, (by intro w hSw; (try dsimp only at hSw); go_simp; try with_reducible rfl)⟩) hHeld ?_
  try simp only [Act.put, List.setIfInBounds_toArray, List.set_cons_zero, List.set_cons_succ]
  refine wpAnyH_take (i := 8) (oi := ⟨some 107, _, _, _, _, _⟩) (v := ?_) rfl (by kernel_rfl) (by kernel_rfl) (by kernel_rfl) (fun _ _ _ h => h) (Or.inl ⟨by rfl, (by intro w hSw; (try dsimp only at hSw); go_simp; try with_reducible rfl)⟩) hHeld ?_
  try simp only [Act.put, List.setIfInBounds_toArray, List.set_cons_zero, List.set_cons_succ]
  refine wpAnyH_take (i := 12) (oi := ⟨some 111, _, _, _, _, _⟩) (v := ?_) rfl (by kernel_rfl) (by kernel_rfl) (by kernel_rfl) (fun _ _ _ h => h) (Or.inl ⟨by rfl, (by intro w hSw; (try dsimp only at hSw); go_simp; try with_reducible rfl)⟩) hHeld ?_
  try simp only [Act.put, List.setIfInBounds_toArray, List.set_cons_zero, List.set_cons_succ]
  refine wpAnyH_ready (rs := [13]) (by kernel_rfl) (by simp) ?_
  refine AllReadyH.cons (o := ⟨some 112, _, _, _, _, _⟩) rfl (fun K hK => ?_) AllReadyH.nil
  go_simp
  refine (enqNew_any 13 pd tm HT7.out hz).mono ?_
  rintro e w8 ⟨en, χ8, rfl, s8, hen⟩
  have HS8 := Lib.hid (HS7.out.stp s8 (fun h => h))
  have HT8 := Lib.hid (HT7.out.stp s8 (fun h => h) (fun h => h))
  have HQen8 := Lib.hid hen
  have c8 := HS8.out.1.cell 8
  have f8 := HS8.out.1.frozen 8
  have hS2 := And.intro (HS8.out.1.cell 0) (And.intro (HS8.out.1.cell 6) (HS8.out.1.cell 5))
  refine hK.out _ _ hS2 (fun hHeld => ?_)
  clear hK K
  try simp only [Act.put, List.setIfInBounds_toArray, List.set_cons_zero, List.set_cons_succ]
  refine wpAnyH_take (i := 14) (oi := ⟨some 98, _, _, _, _, _⟩) (v := ?_) rfl (by kernel_rfl) (by kernel_rfl) (by kernel_rfl) (fun _ _ _ h => h) (Or.inl ⟨by rfl, (by intro w hSw; (try dsimp only at hSw); go_simp; try with_reducible rfl)⟩) hHeld ?_
  try simp only [Act.put, List.setIfInBounds_toArray, List.set_cons_zero, List.set_cons_succ]
  refine wpAnyH_take (i := 15) (oi := ⟨some 113, _, _, _, _, _⟩) (v := ?_) rfl (by kernel_rfl) (by kernel_rfl) (by kernel_rfl) (fun _ _ _ h => h) (Or.inl ⟨by rfl, (by intro w hSw; (try dsimp only at hSw); go_simp; try with_reducible rfl)⟩) hHeld ?_
  try simp only [Act.put, List.setIfInBounds_toArray, List.set_cons_zero, List.set_cons_succ]
  refine wpAnyH_take (i := 16) (oi := ⟨some 114, _, _, _, _, _⟩) (v := ?_) rfl (by kernel_rfl) (by kernel_rfl) (by kernel_rfl) (fun _ _ _ h => h) (Or.inl ⟨by rfl, (by intro w hSw; (try dsimp only at hSw); go_simp; try with_reducible rfl)⟩) hHeld ?_
  try simp only [Act.put, List.setIfInBounds_toArray, List.set_cons_zero, List.set_cons_succ]
  refine wpAnyH_take (i := 17) (oi := ⟨some 115, _, _, _, _, _⟩) (v := ?_) rfl (by kernel_rfl) (by kernel_rfl) (by kernel_rfl) (fun _ _ _ h => h) (Or.inl ⟨by rfl, (by intro w hSw; (try dsimp only at hSw); go_simp; try with_reducible rfl)⟩) hHeld ?_
  try simp only [Act.put, List.setIfInBounds_toArray, List.set_cons_zero, List.set_cons_succ]
  refine wpAnyH_take (i := 18) (oi := ⟨some 116, _, _, _, _, _⟩) (v := ?_) rfl (by kernel_rfl) (by kernel_rfl) (by kernel_rfl) (fun _ _ _ h => h) (Or.inl ⟨by rfl, (by intro w hSw; (try dsimp only at hSw); go_simp; try with_reducible rfl)⟩) hHeld ?_
  try simp only [Act.put, List.setIfInBounds_toArray, List.set_cons_zero, List.set_cons_succ]
  refine wpAnyH_ready (rs := [19]) (by kernel_rfl) (by simp) ?_
  refine AllReadyH.cons (o := ⟨none, _, _, _, _, _⟩) rfl (fun K hK => ?_) AllReadyH.nil
  go_simp
  have hB8 := HS8.out.1.set 8 (.pointer (some ⟨en, 0, none⟩))
  have hS2 := And.intro (hB8.cell 0) (And.intro (hB8.cell 6) (hB8.cell 5))
  refine hK.out _ _ hS2 (fun hHeld => ?_)
  clear hK K
  try simp only [Act.put, List.setIfInBounds_toArray, List.set_cons_zero, List.set_cons_succ]
  refine wpAnyH_done (by kernel_rfl) ?_ _
  have st := (Stp.refl (· = 7) χ8 w8).set (p := ⟨s, 8, none⟩) (.inl HS8.out.2) (.pointer (some ⟨en, 0, none⟩))
  have HS9 := Lib.hid (show CBlk χ8 7 _ s _ _ from ⟨hB8, HS8.out.2⟩)
  have HT9 := Lib.hid (HT8.out.stp st (by decide) (by decide))
  have HP9 := Lib.hid ((HP7.out.trans (s8.mono fun k hk => hk.elim)).trans (st.mono fun k hk => Or.inl hk))
  have HQds9 := Lib.hid (CBlk.stp (CBlk.stp HQds7.out s8 (fun h => h)) st (by decide))
  have HQen9 := Lib.hid (CBlk.stp HQen8.out st (by decide))
  clear hHeld hS2 c8 f8 hB8 s8 hen st HS7 HT7 HP7 HS8 HT8 HQen8 HQds7
  generalize w8.setCell ⟨s, 8, none⟩ (.pointer (some ⟨en, 0, none⟩)) = w9 at *
  go_wp2_with (fail)
  have hb := below_drewN w9 1
  have HS10 := Lib.hid (HS9.out.stp (C := fun _ => False) (Stp.of_below hb) (fun h => h))
  have HT10 := Lib.hid (HT9.out.stp (C := fun _ => False) (Stp.of_below hb) (fun h => h) (fun h => h))
  have HP10 := Lib.hid (HP9.out.trans (Stp.of_below hb))
  have HQds10 := Lib.hid (CBlk.stp (C := fun _ => False) HQds9.out (Stp.of_below hb) (fun h => h))
  have HQen10 := Lib.hid (CBlk.stp (C := fun _ => False) HQen9.out (Stp.of_below hb) (fun h => h))
  have e0 := And.intro (HS10.out.1.cell 0) (And.intro (HS10.out.1.cell 6) (HS10.out.1.cell 5))
  refine wp_region_held_drew (S := fun w' => w'.cell? ⟨s, 0, none⟩ = some (.pointer (some ⟨tp, 0, none⟩)) ∧ w'.cell? ⟨s, 6, none⟩ = some (.pointer (some ⟨pd, 0, none⟩)) ∧ w'.cell? ⟨s, 5, none⟩ = some (.pointer (some ⟨tm, 0, none⟩))) (by kernel_rfl) e0 (fun hHeld => ?_)
  rw [show w9.drewN 1 = w9.drew from rfl] at *
  generalize w9.drew = w10 at *
  clear hb e0 HS9 HT9 HP9 HQds9 HQen9
  refine wpAnyH_take (i := 0) (oi := ⟨some 118, _, _, _, _, _⟩) (v := ?_) rfl (by kernel_rfl) (by kernel_rfl) (by kernel_rfl) (fun _ _ _ h => h) (Or.inl ⟨by rfl, (by intro w hSw; (try dsimp only at hSw); go_simp; try with_reducible rfl)⟩) hHeld ?_
  try simp only [Act.put, List.setIfInBounds_toArray, List.set_cons_zero, List.set_cons_succ]
  refine wpAnyH_take (i := 1) (oi := ⟨some 119, _, _, _, _, _⟩) (v := ?_) rfl (by kernel_rfl) (by kernel_rfl) (by kernel_rfl) (fun _ _ _ h => h) (Or.inl ⟨by rfl, (by intro w hSw; (try dsimp only at hSw); go_simp; try with_reducible rfl)⟩) hHeld ?_
  try simp only [Act.put, List.setIfInBounds_toArray, List.set_cons_zero, List.set_cons_succ]
  refine wpAnyH_take (i := 5) (oi := ⟨some 123, _, _, _, _, _⟩) (v := ?_) rfl (by kernel_rfl) (by kernel_rfl) (by kernel_rfl) (fun _ _ _ h => h) (Or.inl ⟨by rfl, (by intro w hSw; (try dsimp only at hSw); go_simp; try with_reducible rfl)⟩) hHeld ?_
  try simp only [Act.put, List.setIfInBounds_toArray, List.set_cons_zero, List.set_cons_succ]
  refine wpAnyH_take (i := 9) (oi := ⟨some 127, _, _, _, _, _⟩) (v := ?_) rfl (by kernel_rfl) (by kernel_rfl) (by kernel_rfl) (fun _ _ _ h => h) (Or.inl ⟨by rfl, (by intro w hSw; (try dsimp only at hSw); go_simp; try with_reducible rfl)⟩) hHeld ?_
  try simp only [Act.put, List.setIfInBounds_toArray, List.set_cons_zero, List.set_cons_succ]
  refine wpAnyH_take (i := 2) (oi := ⟨some 120, _, _, _, _, _⟩) (v := ?_) rfl (by kernel_rfl) (by kernel_rfl) (by kernel_rfl) (fun _ _ _ h => h) (Or.inl ⟨by rfl, (by intro w hSw; (try dsimp only at hSw); go_simp; try with_reducible rfl)⟩) hHeld ?_
  try simp only [Act.put, List.setIfInBounds_toArray, List.set_cons_zero, List.set_cons_succ]
  refine wpAnyH_take (i := 6) (oi := ⟨some 124, _, _, _, _, _⟩) (v := ?_) rfl (by kernel_rfl) (by kernel_rfl) (by kernel_rfl) (fun _ _ _ h => h) (Or.inl ⟨by rfl, (by intro w hSw; (try dsimp only at hSw); go_simp; try with_reducible rfl)⟩) hHeld ?_
  try simp only [Act.put, List.setIfInBounds_toArray, List.set_cons_zero, List.set_cons_succ]
  refine wpAnyH_take (i := 10) (oi := ⟨some 128, _, _, _, _, _⟩) (v := ?_) rfl (by kernel_rfl) (by kernel_rfl) (by kernel_rfl) (fun _ _ _ h => h) (Or.inl ⟨by rfl, (by intro w hSw; (try dsimp only at hSw); go_simp; try with_reducible rfl)⟩) hHeld ?_
  try simp only [Act.put, List.setIfInBounds_toArray, List.set_cons_zero, List.set_cons_succ]
  refine wpAnyH_take (i := 3) (oi := ⟨some 121, _, _, _, _, _⟩) (v := ?_) rfl (by kernel_rfl) (by kernel_rfl) (by kernel_rfl) (fun _ _ _ h => h) (Or.inl ⟨by rfl, (by intro w hSw; (try dsimp only at hSw); go_simp; try with_reducible rfl)⟩) hHeld ?_
  try simp only [Act.put, List.setIfInBounds_toArray, List.set_cons_zero, List.set_cons_succ]
  refine wpAnyH_take (i := 7) (oi := ⟨some 125, _, _, _, _, _⟩) (v := ?_) rfl (by kernel_rfl) (by kernel_rfl) (by kernel_rfl) (fun _ _ _ h => h) (Or.inl ⟨by rfl, (by intro w hSw; (try dsimp only at hSw); go_simp; try with_reducible rfl)⟩) hHeld ?_
  try simp only [Act.put, List.setIfInBounds_toArray, List.set_cons_zero, List.set_cons_succ]
  refine wpAnyH_take (i := 11) (oi := ⟨some 129, _, _, _, _, _⟩) (v := ?_) rfl (by kernel_rfl) (by kernel_rfl) (by kernel_rfl) (fun _ _ _ h => h) (Or.inl ⟨by rfl, (by intro w hSw; (try dsimp only at hSw); go_simp; try with_reducible rfl)⟩) hHeld ?_
  try simp only [Act.put, List.setIfInBounds_toArray, List.set_cons_zero, List.set_cons_succ]
  refine wpAnyH_take (i := 4) (oi := ⟨some 122, _, _, _, _, _⟩) (v := ?_) rfl (by kernel_rfl) (by kernel_rfl) (by kernel_rfl) (fun _ _ _ h => h) (Or.inl ⟨by rfl, (by intro w hSw; (try dsimp only at hSw); go_simp; try with_reducible rfl)⟩) hHeld ?_
  try simp only [Act.put, List.setIfInBounds_toArray, List.set_cons_zero, List.set_cons_succ]
  refine wpAnyH_take (i := 8) (oi := ⟨some 126, _, _, _, _, _⟩) (v := ?_) rfl (by kernel_rfl) (by kernel_rfl) (by kernel_rfl) (fun _ _ _ h => h) (Or.inl ⟨by rfl, (by intro w hSw; (try dsimp only at hSw); go_simp; try with_reducible rfl)⟩) hHeld ?_
  try simp only [Act.put, List.setIfInBounds_toArray, List.set_cons_zero, List.set_cons_succ]
  refine wpAnyH_take (i := 12) (oi := ⟨some 130, _, _, _, _, _⟩) (v := ?_) rfl (by kernel_rfl) (by kernel_rfl) (by kernel_rfl) (fun _ _ _ h => h) (Or.inl ⟨by rfl, (by intro w hSw; (try dsimp only at hSw); go_simp; try with_reducible rfl)⟩) hHeld ?_
  try simp only [Act.put, List.setIfInBounds_toArray, List.set_cons_zero, List.set_cons_succ]
  refine wpAnyH_ready (rs := [13]) (by kernel_rfl) (by simp) ?_
  refine AllReadyH.cons (o := ⟨some 131, _, _, _, _, _⟩) rfl (fun K hK => ?_) AllReadyH.nil
  go_simp
  refine (deqNew_any (χ := χ8) 14 tp pd tm).mono ?_
  rintro e w11 ⟨dq, χ11, rfl, s11, hdq⟩
  have HS11 := Lib.hid (HS10.out.stp s11 (fun h => h))
  have HT11 := Lib.hid (HT10.out.stp s11 (fun h => h) (fun h => h))
  have HQdq11 := Lib.hid hdq
  have c9 := HS11.out.1.cell 9
  have f9 := HS11.out.1.frozen 9
  have hS2 := And.intro (HS11.out.1.cell 0) (And.intro (HS11.out.1.cell 6) (HS11.out.1.cell 5))
  refine hK.out _ _ hS2 (fun hHeld => ?_)
  clear hK K
  try simp only [Act.put, List.setIfInBounds_toArray, List.set_cons_zero, List.set_cons_succ]
  refine wpAnyH_take (i := 14) (oi := ⟨some 117, _, _, _, _, _⟩) (v := ?_) rfl (by kernel_rfl) (by kernel_rfl) (by kernel_rfl) (fun _ _ _ h => h) (Or.inl ⟨by rfl, (by intro w hSw; (try dsimp only at hSw); go_simp; try with_reducible rfl)⟩) hHeld ?_
  try simp only [Act.put, List.setIfInBounds_toArray, List.set_cons_zero, List.set_cons_succ]
  refine wpAnyH_take (i := 15) (oi := ⟨some 132, _, _, _, _, _⟩) (v := ?_) rfl (by kernel_rfl) (by kernel_rfl) (by kernel_rfl) (fun _ _ _ h => h) (Or.inl ⟨by rfl, (by intro w hSw; (try dsimp only at hSw); go_simp; try with_reducible rfl)⟩) hHeld ?_
  try simp only [Act.put, List.setIfInBounds_toArray, List.set_cons_zero, List.set_cons_succ]
  refine wpAnyH_take (i := 16) (oi := ⟨some 133, _, _, _, _, _⟩) (v := ?_) rfl (by kernel_rfl) (by kernel_rfl) (by kernel_rfl) (fun _ _ _ h => h) (Or.inl ⟨by rfl, (by intro w hSw; (try dsimp only at hSw); go_simp; try with_reducible rfl)⟩) hHeld ?_
  try simp only [Act.put, List.setIfInBounds_toArray, List.set_cons_zero, List.set_cons_succ]
  refine wpAnyH_take (i := 17) (oi := ⟨some 134, _, _, _, _, _⟩) (v := ?_) rfl (by kernel_rfl) (by kernel_rfl) (by kernel_rfl) (fun _ _ _ h => h) (Or.inl ⟨by rfl, (by intro w hSw; (try dsimp only at hSw); go_simp; try with_reducible rfl)⟩) hHeld ?_
  try simp only [Act.put, List.setIfInBounds_toArray, List.set_cons_zero, List.set_cons_succ]
  refine wpAnyH_take (i := 18) (oi := ⟨some 135, _, _, _, _, _⟩) (v := ?_) rfl (by kernel_rfl) (by kernel_rfl) (by kernel_rfl) (fun _ _ _ h => h) (Or.inl ⟨by rfl, (by intro w hSw; (try dsimp only at hSw); go_simp; try with_reducible rfl)⟩) hHeld ?_
  try simp only [Act.put, List.setIfInBounds_toArray, List.set_cons_zero, List.set_cons_succ]
  refine wpAnyH_ready (rs := [19]) (by kernel_rfl) (by simp) ?_
  refine AllReadyH.cons (o := ⟨none, _, _, _, _, _⟩) rfl (fun K hK => ?_) AllReadyH.nil
  go_simp
  have hB11 := HS11.out.1.set 9 (.pointer (some ⟨dq, 0, none⟩))
  have hS2 := And.intro (hB11.cell 0) (And.intro (hB11.cell 6) (hB11.cell 5))
  refine hK.out _ _ hS2 (fun hHeld => ?_)
  clear hK K
  try simp only [Act.put, List.setIfInBounds_toArray, List.set_cons_zero, List.set_cons_succ]
  refine wpAnyH_done (by kernel_rfl) ?_ _
  have st := (Stp.refl (· = 7) χ11 w11).set (p := ⟨s, 9, none⟩) (.inl HS11.out.2) (.pointer (some ⟨dq, 0, none⟩))
  have HS12 := Lib.hid (show CBlk χ11 7 _ s _ _ from ⟨hB11, HS11.out.2⟩)
  have HT12 := Lib.hid (HT11.out.stp st (by decide) (by decide))
  have HP12 := Lib.hid ((HP10.out.trans (s11.mono fun k hk => hk.elim)).trans (st.mono fun k hk => Or.inl hk))
  have HQds12 := Lib.hid (CBlk.stp (CBlk.stp HQds10.out s11 (fun h => h)) st (by decide))
  have HQen12 := Lib.hid (CBlk.stp (CBlk.stp HQen10.out s11 (fun h => h)) st (by decide))
  have HQdq12 := Lib.hid (CBlk.stp HQdq11.out st (by decide))
  clear hHeld hS2 c9 f9 hB11 s11 hdq st HS10 HT10 HP10 HS11 HT11 HQdq11 HQds10 HQen10
  generalize w11.setCell ⟨s, 9, none⟩ (.pointer (some ⟨dq, 0, none⟩)) = w12 at *
  have c7 := HS12.out.1.cell 7
  go_wp2_with (fail)
  refine (dispAll_none HQds12.out HT12.out hr).mono ?_
  rintro e w13 ⟨rfl, hb⟩
  have HS13 := Lib.hid (HS12.out.stp (C := fun _ => False) (Stp.of_below hb) (fun h => h))
  have HT13 := Lib.hid (HT12.out.stp (C := fun _ => False) (Stp.of_below hb) (fun h => h) (fun h => h))
  have HP13 := Lib.hid (HP12.out.trans (Stp.of_below hb))
  have HQds13 := Lib.hid (CBlk.stp (C := fun _ => False) HQds12.out (Stp.of_below hb) (fun h => h))
  have HQen13 := Lib.hid (CBlk.stp (C := fun _ => False) HQen12.out (Stp.of_below hb) (fun h => h))
  have HQdq13 := Lib.hid (CBlk.stp (C := fun _ => False) HQdq12.out (Stp.of_below hb) (fun h => h))
  clear hb c7 HS12 HT12 HP12 HQds12 HQen12 HQdq12
  have c8 := HS13.out.1.cell 8
  go_wp2_with (fail)
  refine (enqAll_none HQen13.out HT13.out hr).mono ?_
  rintro e w14 ⟨rfl, hb⟩
  have hb2 := hb.drew
  have HS14 := Lib.hid (HS13.out.stp (C := fun _ => False) (Stp.of_below hb2) (fun h => h))
  have HP14 := Lib.hid (HP13.out.trans (Stp.of_below hb2))
  have HQds14 := Lib.hid (CBlk.stp (C := fun _ => False) HQds13.out (Stp.of_below hb2) (fun h => h))
  have HQen14 := Lib.hid (CBlk.stp (C := fun _ => False) HQen13.out (Stp.of_below hb2) (fun h => h))
  have HQdq14 := Lib.hid (CBlk.stp (C := fun _ => False) HQdq13.out (Stp.of_below hb2) (fun h => h))
  clear hb hb2 c8 HS13 HT13 HP13 HQds13 HQen13 HQdq13
  go_wp2_with (fail)
  have e0 := And.intro (HS14.out.1.cell 9) (HS14.out.1.cell 8)
  refine wp_region_held_drew (S := fun w' => w'.cell? ⟨s, 9, none⟩ = some (.pointer (some ⟨dq, 0, none⟩)) ∧ w'.cell? ⟨s, 8, none⟩ = some (.pointer (some ⟨en, 0, none⟩))) (by kernel_rfl) e0 (fun hHeld => ?_)
  generalize w14.drew = w15 at *
  clear e0
  refine wpAnyH_take (i := 0) (oi := ⟨some 155, _, _, _, _, _⟩) (v := ?_) rfl (by kernel_rfl) (by kernel_rfl) (by kernel_rfl) (fun _ _ _ h => h) (Or.inl ⟨by rfl, (by intro w hSw; (try dsimp only at hSw); go_simp; try with_reducible rfl)⟩) hHeld ?_
  try simp only [Act.put, List.setIfInBounds_toArray, List.set_cons_zero, List.set_cons_succ]
  refine wpAnyH_take (i := 4) (oi := ⟨some 159, _, _, _, _, _⟩) (v := ?_) rfl (by kernel_rfl) (by kernel_rfl) (by kernel_rfl) (fun _ _ _ h => h) (Or.inl ⟨by rfl, (by intro w hSw; (try dsimp only at hSw); go_simp; try with_reducible rfl)⟩) hHeld ?_
  try simp only [Act.put, List.setIfInBounds_toArray, List.set_cons_zero, List.set_cons_succ]
  refine wpAnyH_take (i := 1) (oi := ⟨some 156, _, _, _, _, _⟩) (v := ?_) rfl (by kernel_rfl) (by kernel_rfl) (by kernel_rfl) (fun _ _ _ h => h) (Or.inl ⟨by rfl, (by intro w hSw; (try dsimp only at hSw); go_simp; try with_reducible rfl)⟩) hHeld ?_
  try simp only [Act.put, List.setIfInBounds_toArray, List.set_cons_zero, List.set_cons_succ]
  refine wpAnyH_take (i := 5) (oi := ⟨some 160, _, _, _, _, _⟩) (v := ?_) rfl (by kernel_rfl) (by kernel_rfl) (by kernel_rfl) (fun _ _ _ h => h) (Or.inl ⟨by rfl, (by intro w hSw; (try dsimp only at hSw); go_simp; try with_reducible rfl)⟩) hHeld ?_
  try simp only [Act.put, List.setIfInBounds_toArray, List.set_cons_zero, List.set_cons_succ]
  refine wpAnyH_take (i := 2) (oi := ⟨some 157, _, _, _, _, _⟩) (v := ?_) rfl (by kernel_rfl) (by kernel_rfl) (by kernel_rfl) (fun _ _ _ h => h) (Or.inl ⟨by rfl, (by intro w hSw; (try dsimp only at hSw); go_simp; try with_reducible rfl)⟩) hHeld ?_
  try simp only [Act.put, List.setIfInBounds_toArray, List.set_cons_zero, List.set_cons_succ]
  refine wpAnyH_take (i := 6) (oi := ⟨some 161, _, _, _, _, _⟩) (v := ?_) rfl (by kernel_rfl) (by kernel_rfl) (by kernel_rfl) (fun _ _ _ h => h) (Or.inl ⟨by rfl, (by intro w hSw; (try dsimp only at hSw); go_simp; try with_reducible rfl)⟩) hHeld ?_
  try simp only [Act.put, List.setIfInBounds_toArray, List.set_cons_zero, List.set_cons_succ]
  refine wpAnyH_take (i := 3) (oi := ⟨some 158, _, _, _, _, _⟩) (v := ?_) rfl (by kernel_rfl) (by kernel_rfl) (by kernel_rfl) (fun _ _ _ h => h) (Or.inl ⟨by rfl, (by intro w hSw; (try dsimp only at hSw); go_simp; try with_reducible rfl)⟩) hHeld ?_
  try simp only [Act.put, List.setIfInBounds_toArray, List.set_cons_zero, List.set_cons_succ]
  refine wpAnyH_take (i := 7) (oi := ⟨some 162, _, _, _, _, _⟩) (v := ?_) rfl (by kernel_rfl) (by kernel_rfl) (by kernel_rfl) (fun _ _ _ h => h) (Or.inl ⟨by rfl, (by intro w hSw; (try dsimp only at hSw); go_simp; try with_reducible rfl)⟩) hHeld ?_
  try simp only [Act.put, List.setIfInBounds_toArray, List.set_cons_zero, List.set_cons_succ]
  refine wpAnyH_ready (rs := [8]) (by kernel_rfl) (by simp) ?_
  refine AllReadyH.cons (o := ⟨some 163, _, _, _, _, _⟩) rfl (fun K hK => ?_) AllReadyH.nil
  go_simp
  refine (Late_none HQen14.out).mono ?_
  rintro e w16 ⟨rfl, s16, hen16⟩
  have HS16 := Lib.hid (HS14.out.stp s16 (by decide))
  have HQdq16 := Lib.hid (CBlk.stp HQdq14.out s16 (by decide))
  have hS2 := And.intro (HS16.out.1.cell 9) (HS16.out.1.cell 8)
  refine hK.out _ _ hS2 (fun hHeld => ?_)
  clear hK K
  try simp only [Act.put, List.setIfInBounds_toArray, List.set_cons_zero, List.set_cons_succ]
  refine wpAnyH_ready (rs := [9]) (by kernel_rfl) (by simp) ?_
  refine AllReadyH.cons (o := ⟨some 164, _, _, _, _, _⟩) rfl (fun K hK => ?_) AllReadyH.nil
  go_simp
  refine (deqAdd_none HQdq16.out).mono ?_
  rintro e w17 ⟨rfl, s17, hdq17⟩
  have HS17 := Lib.hid (HS16.out.stp s17 (by decide))
  have hS2 := And.intro (HS17.out.1.cell 9) (HS17.out.1.cell 8)
  refine hK.out _ _ hS2 (fun hHeld => ?_)
  clear hK K
  try simp only [Act.put, List.setIfInBounds_toArray, List.set_cons_zero, List.set_cons_succ]
  refine wpAnyH_done (by kernel_rfl) ?_ _
  go_wp2
  go_ret
  exact ⟨rfl, ds, en, dq, _, (HP14.out.trans (s16.mono fun k hk => Or.inr (Or.inl hk))).trans (s17.mono fun k hk => Or.inr (Or.inr hk)), HS17.out, CBlk.stp (CBlk.stp HQds14.out s16 (by decide)) s17 (by decide), CBlk.stp hen16 s17 (by decide), hdq17⟩

end Go.Proofs.YtnacjogdndggeaaGreatDoor
end
