/- Layer 22 (send): Send, Schedule. Plain facts: room for many records more. Layer 22's law: the three topics on a fresh disk. Layer 22's law: awake. -/
import Derived.Test.YtnacjogdndggeaaGreatDoorZ32
import Derived.Test.YtnacjogdndggeaaGreatDoorZ21
import Derived.Test.YtnacjogdndggeaaGreatDoorZ31
import Derived.Test.YtnacjogdndggeaaGreatDoorZ25
import Derived.Test.YtnacjogdndggeaaGreatDoorZ22
section
namespace Go.Proofs.YtnacjogdndggeaaGreatDoor
open Go.Shelf Go.RowKit Go.Lib
set_option maxRecDepth 100000
set_option maxHeartbeats 1000000

/-- There is room for one more record. -/
structure Ready (T : TapeM) (D : Dsk) (Pd : Pends) : Prop where
  good : T.Good D
  fin : T.row.fin + 2000 ≤ 90000000
  files : D.files.length ≤ 1000000
  waits : D.waits.length ≤ 1000000
  recs : T.recs.length ≤ 1000000
  room : 1345 ≤ D.room
  many : Pd.length ≤ 1000000
  fresh : ∀ id, T.row.fin ≤ id → aget Pd (id : Int) = none

section
variable {χ : Col} {w : World} {s c : Nat} {a : SAddr} {now : Int} {T : TapeM} {L : Tops} {Pd : Pends} {D : Dsk} {x : WantR} {A : Option Addr}

theorem Send_bad (hC : Core χ w s a now T L Pd D) (hr : RSa w A x.keys) (hk : x.keys.length ≤ 1000) (hl : L.length ≤ 1000) (hE : sendE L x ≠ 0) (b : Bool) :
    Calls Tryz.prog 18 #[ptr s, .agg (wantV x A c), .bool b] w fun e w' => e = .returned (.tuple #[.int .i64 0, .int .i64 (sendE L x)]) ∧ Below w.heap.size w w' := by
  have hB := (Below.refl w.heap.size w).alloc (Nat.le_refl _) (.cells (wantV x A c) 33)
  have st := (Stp.of_below (C := fun _ => False) (χ := χ) hB).paint (Nat.le_refl _) 0
  have HC1 := Lib.hid (hC.stp st (fun _ _ h => h))
  have HM1 := Lib.hid (show CBlk (paint χ w.heap.size 0) 0 _ _ _ _ from ⟨Blk.new w (wantV x A c) 33, paint_new (Nat.le_refl _)⟩)
  have HK1 := Lib.hid (hr.below hB)
  have HS1 := Lib.hid (st.mono (C' := (· ≠ 0)) fun k hk => hk.elim)
  have HB1 := Lib.hid hB
  have hCk := Check_any (c := c) HC1.out HK1.out hk hl
  clear hC hr hB st HS1 HC1 HK1
  have hEb : (sendE L x != 0) = true := by simpa using hE
  generalize sendE L x = E at *
  unfold ptr at *
  simp only [wantV] at *
  go_enter Tryz.func18, Tryz.ntmps18
  go_upto_region 1 with (fail)
  generalize w.alloc (.cells #[.string (S x.topic), .int .i64 x.queue, .string (S x.tag), .slice A x.keys.length c, .string (S x.body)] 33) = w1 at *
  have b0 := HM1.out.1.cell 0
  have b1 := HM1.out.1.cell 1
  have b2 := HM1.out.1.cell 2
  have b3 := HM1.out.1.cell 3
  have b4 := HM1.out.1.cell 4
  go_wp2_with (fail)
  refine hCk.mono ?_
  rintro e w2 ⟨rfl, hb⟩
  have HB2 := Lib.hid (HB1.out.trans (hb.mono HB1.out.size))
  clear hCk hb
  go_wp2_with (fail)
  go_ret2
  exact ⟨rfl, HB2.out⟩

theorem Schedule_bad (hC : Core χ w s a now T L Pd D) (hr : RSa w A x.keys) (hk : x.keys.length ≤ 1000) (hl : L.length ≤ 1000) (hE : sendE L x ≠ 0) (at' : Int) (b : Bool) :
    Calls Tryz.prog 19 #[ptr s, .agg (wantV x A c), .int .i64 at', .bool b] w fun e w' => e = .returned (.tuple #[.int .i64 0, .int .i64 (sendE L x)]) ∧ Below w.heap.size w w' := by
  have hB := (Below.refl w.heap.size w).alloc (Nat.le_refl _) (.cells (wantV x A c) 33)
  have st := (Stp.of_below (C := fun _ => False) (χ := χ) hB).paint (Nat.le_refl _) 0
  have HC1 := Lib.hid (hC.stp st (fun _ _ h => h))
  have HM1 := Lib.hid (show CBlk (paint χ w.heap.size 0) 0 _ _ _ _ from ⟨Blk.new w (wantV x A c) 33, paint_new (Nat.le_refl _)⟩)
  have HK1 := Lib.hid (hr.below hB)
  have HS1 := Lib.hid (st.mono (C' := (· ≠ 0)) fun k hk => hk.elim)
  have HB1 := Lib.hid hB
  have hCk := Check_any (c := c) HC1.out HK1.out hk hl
  clear hC hr hB st HS1 HC1 HK1
  have hEb : (sendE L x != 0) = true := by simpa using hE
  generalize sendE L x = E at *
  unfold ptr at *
  simp only [wantV] at *
  go_enter Tryz.func19, Tryz.ntmps19
  go_upto_region 1 with (fail)
  generalize w.alloc (.cells #[.string (S x.topic), .int .i64 x.queue, .string (S x.tag), .slice A x.keys.length c, .string (S x.body)] 33) = w1 at *
  have b0 := HM1.out.1.cell 0
  have b1 := HM1.out.1.cell 1
  have b2 := HM1.out.1.cell 2
  have b3 := HM1.out.1.cell 3
  have b4 := HM1.out.1.cell 4
  go_wp2_with (fail)
  refine hCk.mono ?_
  rintro e w2 ⟨rfl, hb⟩
  have HB2 := Lib.hid (HB1.out.trans (hb.mono HB1.out.size))
  clear hCk hb
  go_wp2_with (fail)
  go_ret2
  exact ⟨rfl, HB2.out⟩

theorem Schedule_late (hC : Core χ w s a now T L Pd D) (hr : RSa w A x.keys) (hk : x.keys.length ≤ 1000) (hl : L.length ≤ 1000) (hE : sendE L x = 0) (n0 : 0 ≤ now) (n1 : now ≤ 1099511626776) (at' : Int) (ha : now + 200 < at') (b : Bool) :
    Calls Tryz.prog 19 #[ptr s, .agg (wantV x A c), .int .i64 at', .bool b] w fun e w' => e = .returned (.tuple #[.int .i64 0, .int .i64 15]) ∧ Below w.heap.size w w' := by
  have hB := (Below.refl w.heap.size w).alloc (Nat.le_refl _) (.cells (wantV x A c) 33)
  have st := (Stp.of_below (C := fun _ => False) (χ := χ) hB).paint (Nat.le_refl _) 0
  have HC1 := Lib.hid (hC.stp st (fun _ _ h => h))
  have HM1 := Lib.hid (show CBlk (paint χ w.heap.size 0) 0 _ _ _ _ from ⟨Blk.new w (wantV x A c) 33, paint_new (Nat.le_refl _)⟩)
  have HK1 := Lib.hid (hr.below hB)
  have HS1 := Lib.hid (st.mono (C' := (· ≠ 0)) fun k hk => hk.elim)
  have HB1 := Lib.hid hB
  have hCk := Check_any (c := c) HC1.out HK1.out hk hl
  rw [hE] at hCk
  clear hC hr hB st HS1 HK1 hE
  unfold ptr at *
  simp only [wantV] at *
  go_enter Tryz.func19, Tryz.ntmps19
  go_upto_region 1 with (fail)
  generalize w.alloc (.cells #[.string (S x.topic), .int .i64 x.queue, .string (S x.tag), .slice A x.keys.length c, .string (S x.body)] 33) = w1 at *
  have b0 := HM1.out.1.cell 0
  have b1 := HM1.out.1.cell 1
  have b2 := HM1.out.1.cell 2
  have b3 := HM1.out.1.cell 3
  have b4 := HM1.out.1.cell 4
  go_wp2_with (fail)
  refine hCk.mono ?_
  rintro e w2 ⟨rfl, hb⟩
  have HB2 := Lib.hid (HB1.out.trans (hb.mono HB1.out.size))
  have hNw := Now_any (HC1.out.below hb)
  unfold ptr at hNw
  clear hCk hb HC1
  go_wp2_with (fail)
  refine hNw.mono ?_
  rintro e w' ⟨rfl, rfl⟩
  clear hNw
  go_wp2_with (fail)
  refine (LDue_late at' now w2 n0 n1 ha).mono ?_
  rintro e w3 ⟨rfl, hb⟩
  have HB3 := Lib.hid (HB2.out.trans (hb.mono HB2.out.size))
  go_wp2_with (fail)
  go_ret2
  exact ⟨rfl, HB3.out⟩

theorem Send_good (hC : Core χ w s a now T L Pd D) (hr : RSa w A x.keys) (hk : x.keys.length ≤ 1000) (hl : L.length ≤ 1000) (hE : sendE L x = 0) (hL : ∀ t ∈ L, plainF t.1 = true ∧ t.2 ≤ 3) (n0 : 0 ≤ now) (n1 : now ≤ 1099511626776) (hR : Ready T D Pd) (b : Bool) :
    Calls Tryz.prog 18 #[ptr s, .agg (wantV x A c), .bool b] w fun e w' => e = .returned (.tuple #[.int .i64 ((T.row1 (recOf x 1 0 now)).fin : Int), .int .i64 0]) ∧
      ∃ χ', Stp (· ≠ 0) χ w χ' w' ∧ Core χ' w' s a now (T.put (recOf x 1 0 now) b) L Pd (T.putD D (recOf x 1 0 now) b) := by
  have hB := (Below.refl w.heap.size w).alloc (Nat.le_refl _) (.cells (wantV x A c) 33)
  have st := (Stp.of_below (C := fun _ => False) (χ := χ) hB).paint (Nat.le_refl _) 0
  have HC1 := Lib.hid (hC.stp st (fun _ _ h => h))
  have HM1 := Lib.hid (show CBlk (paint χ w.heap.size 0) 0 _ _ _ _ from ⟨Blk.new w (wantV x A c) 33, paint_new (Nat.le_refl _)⟩)
  have HK1 := Lib.hid (hr.below hB)
  have HS1 := Lib.hid (st.mono (C' := (· ≠ 0)) fun k hk => hk.elim)
  have HB1 := Lib.hid hB
  have hCk := Check_any (c := c) HC1.out HK1.out hk hl
  rw [hE] at hCk
  have hm := right_of_send hE hL (kind := 1) (due := 0) (now := now) (.inl ⟨rfl, rfl⟩) (by omega) (by omega) n0 (by omega)
  have hcl := TapeM.cost_le T hR.good.ok hm (show (1 : Int) ≠ 0 by decide)
  have HPu := Lib.hid (fun (χ : Col) (W : World) (A : Option Addr) (k : Nat) (h : Core χ W s a now T L Pd D) (hr : RSa W A x.keys) => Put_store (k := k) (m := recOf x 1 0 now) h hR.good hr hm (.inl rfl) (by have := hR.room; omega) hR.fin hR.files hR.waits hR.recs (fun h => by cases h) hR.many b)
  have HRc := Lib.hid (fun (W : World) (hr : RSa W A x.keys) => record_any (c := c) 1 0 now hr (by omega))
  have HPP : Hid (putP Pd (T.row1 (recOf x 1 0 now)).fin (recOf x 1 0 now) = Pd) := rfl
  clear hC hr hB st hE hcl hm
  generalize recOf x 1 0 now = m at *
  unfold ptr at *
  simp only [wantV] at *
  go_enter Tryz.func18, Tryz.ntmps18
  go_upto_region 1 with (fail)
  generalize w.alloc (.cells #[.string (S x.topic), .int .i64 x.queue, .string (S x.tag), .slice A x.keys.length c, .string (S x.body)] 33) = w1 at *
  generalize paint χ w.heap.size 0 = χ1 at *
  have b0 := HM1.out.1.cell 0
  have b1 := HM1.out.1.cell 1
  have b2 := HM1.out.1.cell 2
  have b3 := HM1.out.1.cell 3
  have b4 := HM1.out.1.cell 4
  go_wp2_with (fail)
  refine hCk.mono ?_
  rintro e w2 ⟨rfl, hb⟩
  have hbd := hb.drew
  have hbs := Stp.of_below (C := fun _ => False) (χ := χ1) hbd
  have HC2 := Lib.hid (HC1.out.below hbd)
  have HM2 := Lib.hid (HM1.out.stp hbs (fun h => h))
  have HK2 := Lib.hid (HK1.out.below hbd)
  have HS2 := Lib.hid (HS1.out.trans (Stp.of_below hbd))
  clear b0 b1 b2 b3 b4
  clear hCk HC1 HM1 HK1 HS1 HB1 hbs
  go_wp2_with (fail)
  have e0 := (And.intro (HM2.out.1.cell 0) (And.intro (HM2.out.1.cell 1) (And.intro (HM2.out.1.cell 2) (And.intro (HM2.out.1.cell 3) (HM2.out.1.cell 4)))))
  refine wp_region_held_drew (S := fun w' => w'.cell? ⟨w.heap.size, 0, none⟩ = some (.string (S x.topic)) ∧ w'.cell? ⟨w.heap.size, 1, none⟩ = some (.int .i64 x.queue) ∧ w'.cell? ⟨w.heap.size, 2, none⟩ = some (.string (S x.tag)) ∧ w'.cell? ⟨w.heap.size, 3, none⟩ = some (.slice A x.keys.length c) ∧ w'.cell? ⟨w.heap.size, 4, none⟩ = some (.string (S x.body))) (by kernel_rfl) e0 (fun hHeld => ?_)
  clear e0 hb hbd
  generalize w2.drew = w3 at *
  have hNw := Now_any HC2.out
  unfold ptr at hNw
  refine wpAnyH_take (i := 0) (oi := ⟨some 15, _, _, _, _, _⟩) (v := ?_) rfl (by kernel_rfl) (by kernel_rfl) (by kernel_rfl) (fun _ _ _ h => h) (Or.inl ⟨by rfl, (by intro w hSw; (try dsimp only at hSw); go_simp; try with_reducible rfl)⟩) hHeld ?_
  try simp only [Act.put, List.setIfInBounds_toArray, List.set_cons_zero, List.set_cons_succ]
  refine wpAnyH_take (i := 1) (oi := ⟨some 16, _, _, _, _, _⟩) (v := ?_) rfl (by kernel_rfl) (by kernel_rfl) (by kernel_rfl) (fun _ _ _ h => h) (Or.inl ⟨by rfl, (by intro w hSw; (try dsimp only at hSw); go_simp; try with_reducible rfl)⟩) hHeld ?_
  try simp only [Act.put, List.setIfInBounds_toArray, List.set_cons_zero, List.set_cons_succ]
  refine wpAnyH_take (i := 2) (oi := ⟨some 17, _, _, _, _, _⟩) (v := ?_) rfl (by kernel_rfl) (by kernel_rfl) (by kernel_rfl) (fun _ _ _ h => h) (Or.inl ⟨by rfl, (by intro w hSw; (try dsimp only at hSw); go_simp; try with_reducible rfl)⟩) hHeld ?_
  try simp only [Act.put, List.setIfInBounds_toArray, List.set_cons_zero, List.set_cons_succ]
  refine wpAnyH_take (i := 5) (oi := ⟨some 20, _, _, _, _, _⟩) (v := ?_) rfl (by kernel_rfl) (by kernel_rfl) (by kernel_rfl) (fun _ _ _ h => h) (Or.inl ⟨by rfl, (by intro w hSw; (try dsimp only at hSw); go_simp; try with_reducible rfl)⟩) hHeld ?_
  try simp only [Act.put, List.setIfInBounds_toArray, List.set_cons_zero, List.set_cons_succ]
  refine wpAnyH_ready (rs := [3]) (by kernel_rfl) (by simp) ?_
  refine AllReadyH.cons (o := ⟨some 18, _, _, _, _, _⟩) rfl (fun K hK => ?_) AllReadyH.nil
  go_simp
  refine hNw.mono ?_
  rintro e w' ⟨rfl, rfl⟩
  have hS2 := hHeld
  refine hK.out _ _ hS2 (fun hHeld => ?_)
  clear hK K
  try simp only [Act.put, List.setIfInBounds_toArray, List.set_cons_zero, List.set_cons_succ]
  refine wpAnyH_ready (rs := [4]) (by kernel_rfl) (by simp) ?_
  refine AllReadyH.cons (o := ⟨some 19, _, _, _, _, _⟩) rfl (fun K hK => ?_) AllReadyH.nil
  go_simp
  refine (HRc.out w3 HK2.out).mono ?_
  rintro e w4 ⟨A2, c2, rfl, hk4, hb⟩
  have hbs := Stp.of_below (C := fun _ => False) (χ := χ1) hb
  have HC4 := Lib.hid (HC2.out.below hb)
  have HM4 := Lib.hid (HM2.out.stp hbs (fun h => h))
  have HS4 := Lib.hid (HS2.out.trans (Stp.of_below hb))
  have HK4 := Lib.hid hk4
  have hS2 := (And.intro (HM4.out.1.cell 0) (And.intro (HM4.out.1.cell 1) (And.intro (HM4.out.1.cell 2) (And.intro (HM4.out.1.cell 3) (HM4.out.1.cell 4)))))
  refine hK.out _ _ hS2 (fun hHeld => ?_)
  clear hK K
  try simp only [Act.put, List.setIfInBounds_toArray, List.set_cons_zero, List.set_cons_succ]
  refine wpAnyH_ready (rs := [6]) (by kernel_rfl) (by simp) ?_
  refine AllReadyH.cons (o := ⟨some 21, _, _, _, _, _⟩) rfl (fun K hK => ?_) AllReadyH.nil
  go_simp
  refine (HPu.out χ1 w4 A2 c2 HC4.out HK4.out).mono ?_
  rintro e w5 ⟨rfl, χ5, s5, hc5⟩
  have hM5 := HM4.out.stp s5 (by decide)
  have hS2 := (And.intro (hM5.1.cell 0) (And.intro (hM5.1.cell 1) (And.intro (hM5.1.cell 2) (And.intro (hM5.1.cell 3) (hM5.1.cell 4)))))
  refine hK.out _ _ hS2 (fun hHeld => ?_)
  clear hK K
  try simp only [Act.put, List.setIfInBounds_toArray, List.set_cons_zero, List.set_cons_succ]
  refine wpAnyH_take (i := 7) (oi := ⟨some 22, _, _, _, _, _⟩) (v := ?_) rfl (by kernel_rfl) (by kernel_rfl) (by kernel_rfl) (fun _ _ _ h => h) (Or.inl ⟨by rfl, (by intro w hSw; (try dsimp only at hSw); go_simp; try with_reducible rfl)⟩) hHeld ?_
  try simp only [Act.put, List.setIfInBounds_toArray, List.set_cons_zero, List.set_cons_succ]
  refine wpAnyH_take (i := 8) (oi := ⟨some 23, _, _, _, _, _⟩) (v := ?_) rfl (by kernel_rfl) (by kernel_rfl) (by kernel_rfl) (fun _ _ _ h => h) (Or.inl ⟨by rfl, (by intro w hSw; (try dsimp only at hSw); go_simp; try with_reducible rfl)⟩) hHeld ?_
  try simp only [Act.put, List.setIfInBounds_toArray, List.set_cons_zero, List.set_cons_succ]
  refine wpAnyH_take (i := 9) (oi := ⟨some 6, _, _, _, _, _⟩) (v := ?_) rfl (by kernel_rfl) (by kernel_rfl) (by kernel_rfl) (fun _ _ _ h => h) (Or.inl ⟨by rfl, (by intro w hSw; (try dsimp only at hSw); go_simp; try with_reducible rfl)⟩) hHeld ?_
  try simp only [Act.put, List.setIfInBounds_toArray, List.set_cons_zero, List.set_cons_succ]
  refine wpAnyH_take (i := 10) (oi := ⟨some 7, _, _, _, _, _⟩) (v := ?_) rfl (by kernel_rfl) (by kernel_rfl) (by kernel_rfl) (fun _ _ _ h => h) (Or.inl ⟨by rfl, (by intro w hSw; (try dsimp only at hSw); go_simp; try with_reducible rfl)⟩) hHeld ?_
  try simp only [Act.put, List.setIfInBounds_toArray, List.set_cons_zero, List.set_cons_succ]
  refine wpAnyH_done (by kernel_rfl) ?_ _
  have HS5 := Lib.hid (HS4.out.trans s5)
  have HC5 := Lib.hid hc5
  clear hHeld hS2 s5 hc5 hM5 HM4 HC4 HK4 HS4 HC2 HM2 HK2 HS2 hNw hb hk4
  go_wp2_with (fail)
  go_ret2
  have := HC5.out
  rw [HPP.out] at this
  exact ⟨rfl, χ5, HS5.out, this⟩

theorem Schedule_good (hC : Core χ w s a now T L Pd D) (hr : RSa w A x.keys) (hk : x.keys.length ≤ 1000) (hl : L.length ≤ 1000) (hE : sendE L x = 0) (hL : ∀ t ∈ L, plainF t.1 = true ∧ t.2 ≤ 3) (n0 : 0 ≤ now) (n1 : now ≤ 1099511626776) (hR : Ready T D Pd) (at' : Int) (ha : at' ≤ now + 200) (b : Bool) :
    Calls Tryz.prog 19 #[ptr s, .agg (wantV x A c), .int .i64 at', .bool b] w fun e w' => e = .returned (.tuple #[.int .i64 ((T.row1 (recOf x 2 (max at' now) now)).fin : Int), .int .i64 0]) ∧
      ∃ χ', Stp (· ≠ 0) χ w χ' w' ∧ Core χ' w' s a now (T.put (recOf x 2 (max at' now) now) b) L (aput (Lit.int .i64) ((T.row1 (recOf x 2 (max at' now) now)).fin : Int) (1, max at' now) Pd) (T.putD D (recOf x 2 (max at' now) now) b) := by
  have hB := (Below.refl w.heap.size w).alloc (Nat.le_refl _) (.cells (wantV x A c) 33)
  have st := (Stp.of_below (C := fun _ => False) (χ := χ) hB).paint (Nat.le_refl _) 0
  have HC1 := Lib.hid (hC.stp st (fun _ _ h => h))
  have HM1 := Lib.hid (show CBlk (paint χ w.heap.size 0) 0 _ _ _ _ from ⟨Blk.new w (wantV x A c) 33, paint_new (Nat.le_refl _)⟩)
  have HK1 := Lib.hid (hr.below hB)
  have HS1 := Lib.hid (st.mono (C' := (· ≠ 0)) fun k hk => hk.elim)
  have HB1 := Lib.hid hB
  have hCk := Check_any (c := c) HC1.out HK1.out hk hl
  rw [hE] at hCk
  have hm := right_of_send hE hL (kind := 2) (due := max at' now) (now := now) (.inr rfl) (by omega) (by omega) n0 (by omega)
  have hcl := TapeM.cost_le T hR.good.ok hm (show (2 : Int) ≠ 0 by decide)
  have hf1 := TapeM.row1_fin T hR.good.ok (recOf x 2 (max at' now) now)
  have hf0 : T.row.fin ≤ (T.row1 (recOf x 2 (max at' now) now)).fin := by
    unfold TapeM.row1
    split
    · rw [RowM.fin_append]; omega
    · exact Nat.le_refl _
  have HPu := Lib.hid (fun (χ : Col) (W : World) (A : Option Addr) (k : Nat) (h : Core χ W s a now T L Pd D) (hr : RSa W A x.keys) => Put_store (k := k) (m := recOf x 2 (max at' now) now) h hR.good hr hm (.inr rfl) (by have := hR.room; omega) hR.fin hR.files hR.waits hR.recs (fun _ => hR.fresh _ hf0) hR.many b)
  have HRc := Lib.hid (fun (W : World) (hr : RSa W A x.keys) => record_any (c := c) 2 (max at' now) now hr (by omega))
  have HPP : Hid (putP Pd (T.row1 (recOf x 2 (max at' now) now)).fin (recOf x 2 (max at' now) now) = aput (Lit.int .i64) ((T.row1 (recOf x 2 (max at' now) now)).fin : Int) (1, max at' now) Pd) := rfl
  have HDu := Lib.hid (fun (W : World) => LDue_good at' now W n0 n1 ha)
  clear hC hr hB st hE hcl hm hf1 hf0
  generalize recOf x 2 (max at' now) now = m at *
  generalize max at' now = du at *
  unfold ptr at *
  simp only [wantV] at *
  go_enter Tryz.func19, Tryz.ntmps19
  go_upto_region 1 with (fail)
  generalize w.alloc (.cells #[.string (S x.topic), .int .i64 x.queue, .string (S x.tag), .slice A x.keys.length c, .string (S x.body)] 33) = w1 at *
  generalize paint χ w.heap.size 0 = χ1 at *
  have b0 := HM1.out.1.cell 0
  have b1 := HM1.out.1.cell 1
  have b2 := HM1.out.1.cell 2
  have b3 := HM1.out.1.cell 3
  have b4 := HM1.out.1.cell 4
  go_wp2_with (fail)
  refine hCk.mono ?_
  rintro e w1a ⟨rfl, hb⟩
  have HC1a := Lib.hid (HC1.out.below hb)
  have hbs := Stp.of_below (C := fun _ => False) (χ := χ1) hb
  have HM1a := Lib.hid (HM1.out.stp hbs (fun h => h))
  have HK1a := Lib.hid (HK1.out.below hb)
  have HS1a := Lib.hid (HS1.out.trans (Stp.of_below hb))
  clear b0 b1 b2 b3 b4
  clear hCk HC1 HM1 HK1 HS1 HB1 hbs hb
  have hNw := Now_any HC1a.out
  unfold ptr at hNw
  go_wp2_with (fail)
  refine hNw.mono ?_
  rintro e w' ⟨rfl, rfl⟩
  clear hNw
  go_wp2_with (fail)
  refine (HDu.out w1a).mono ?_
  rintro e w2 ⟨rfl, hb⟩
  have hbd := hb.drew
  have hbs := Stp.of_below (C := fun _ => False) (χ := χ1) hbd
  have HC2 := Lib.hid (HC1a.out.below hbd)
  have HM2 := Lib.hid (HM1a.out.stp hbs (fun h => h))
  have HK2 := Lib.hid (HK1a.out.below hbd)
  have HS2 := Lib.hid (HS1a.out.trans (Stp.of_below hbd))
  clear HC1a HM1a HK1a HS1a hbs
  go_wp2_with (fail)
  have e0 := (And.intro (HM2.out.1.cell 0) (And.intro (HM2.out.1.cell 1) (And.intro (HM2.out.1.cell 2) (And.intro (HM2.out.1.cell 3) (HM2.out.1.cell 4)))))
  refine wp_region_held_drew (S := fun w' => w'.cell? ⟨w.heap.size, 0, none⟩ = some (.string (S x.topic)) ∧ w'.cell? ⟨w.heap.size, 1, none⟩ = some (.int .i64 x.queue) ∧ w'.cell? ⟨w.heap.size, 2, none⟩ = some (.string (S x.tag)) ∧ w'.cell? ⟨w.heap.size, 3, none⟩ = some (.slice A x.keys.length c) ∧ w'.cell? ⟨w.heap.size, 4, none⟩ = some (.string (S x.body))) (by kernel_rfl) e0 (fun hHeld => ?_)
  clear e0 hb hbd
  generalize w2.drew = w3 at *
  have hNw := Now_any HC2.out
  unfold ptr at hNw
  refine wpAnyH_take (i := 0) (oi := ⟨some 29, _, _, _, _, _⟩) (v := ?_) rfl (by kernel_rfl) (by kernel_rfl) (by kernel_rfl) (fun _ _ _ h => h) (Or.inl ⟨by rfl, (by intro w hSw; (try dsimp only at hSw); go_simp; try with_reducible rfl)⟩) hHeld ?_
  try simp only [Act.put, List.setIfInBounds_toArray, List.set_cons_zero, List.set_cons_succ]
  refine wpAnyH_take (i := 1) (oi := ⟨some 30, _, _, _, _, _⟩) (v := ?_) rfl (by kernel_rfl) (by kernel_rfl) (by kernel_rfl) (fun _ _ _ h => h) (Or.inl ⟨by rfl, (by intro w hSw; (try dsimp only at hSw); go_simp; try with_reducible rfl)⟩) hHeld ?_
  try simp only [Act.put, List.setIfInBounds_toArray, List.set_cons_zero, List.set_cons_succ]
  refine wpAnyH_take (i := 2) (oi := ⟨some 31, _, _, _, _, _⟩) (v := ?_) rfl (by kernel_rfl) (by kernel_rfl) (by kernel_rfl) (fun _ _ _ h => h) (Or.inl ⟨by rfl, (by intro w hSw; (try dsimp only at hSw); go_simp; try with_reducible rfl)⟩) hHeld ?_
  try simp only [Act.put, List.setIfInBounds_toArray, List.set_cons_zero, List.set_cons_succ]
  refine wpAnyH_take (i := 3) (oi := ⟨some 32, _, _, _, _, _⟩) (v := ?_) rfl (by kernel_rfl) (by kernel_rfl) (by kernel_rfl) (fun _ _ _ h => h) (Or.inl ⟨by rfl, (by intro w hSw; (try dsimp only at hSw); go_simp; try with_reducible rfl)⟩) hHeld ?_
  try simp only [Act.put, List.setIfInBounds_toArray, List.set_cons_zero, List.set_cons_succ]
  refine wpAnyH_take (i := 6) (oi := ⟨some 35, _, _, _, _, _⟩) (v := ?_) rfl (by kernel_rfl) (by kernel_rfl) (by kernel_rfl) (fun _ _ _ h => h) (Or.inl ⟨by rfl, (by intro w hSw; (try dsimp only at hSw); go_simp; try with_reducible rfl)⟩) hHeld ?_
  try simp only [Act.put, List.setIfInBounds_toArray, List.set_cons_zero, List.set_cons_succ]
  refine wpAnyH_ready (rs := [4]) (by kernel_rfl) (by simp) ?_
  refine AllReadyH.cons (o := ⟨some 33, _, _, _, _, _⟩) rfl (fun K hK => ?_) AllReadyH.nil
  go_simp
  refine hNw.mono ?_
  rintro e w' ⟨rfl, rfl⟩
  have hS2 := hHeld
  refine hK.out _ _ hS2 (fun hHeld => ?_)
  clear hK K
  try simp only [Act.put, List.setIfInBounds_toArray, List.set_cons_zero, List.set_cons_succ]
  refine wpAnyH_ready (rs := [5]) (by kernel_rfl) (by simp) ?_
  refine AllReadyH.cons (o := ⟨some 34, _, _, _, _, _⟩) rfl (fun K hK => ?_) AllReadyH.nil
  go_simp
  refine (HRc.out w3 HK2.out).mono ?_
  rintro e w4 ⟨A2, c2, rfl, hk4, hb⟩
  have hbs := Stp.of_below (C := fun _ => False) (χ := χ1) hb
  have HC4 := Lib.hid (HC2.out.below hb)
  have HM4 := Lib.hid (HM2.out.stp hbs (fun h => h))
  have HS4 := Lib.hid (HS2.out.trans (Stp.of_below hb))
  have HK4 := Lib.hid hk4
  have hS2 := (And.intro (HM4.out.1.cell 0) (And.intro (HM4.out.1.cell 1) (And.intro (HM4.out.1.cell 2) (And.intro (HM4.out.1.cell 3) (HM4.out.1.cell 4)))))
  refine hK.out _ _ hS2 (fun hHeld => ?_)
  clear hK K
  try simp only [Act.put, List.setIfInBounds_toArray, List.set_cons_zero, List.set_cons_succ]
  refine wpAnyH_ready (rs := [7]) (by kernel_rfl) (by simp) ?_
  refine AllReadyH.cons (o := ⟨some 36, _, _, _, _, _⟩) rfl (fun K hK => ?_) AllReadyH.nil
  go_simp
  refine (HPu.out χ1 w4 A2 c2 HC4.out HK4.out).mono ?_
  rintro e w5 ⟨rfl, χ5, s5, hc5⟩
  have hM5 := HM4.out.stp s5 (by decide)
  have hS2 := (And.intro (hM5.1.cell 0) (And.intro (hM5.1.cell 1) (And.intro (hM5.1.cell 2) (And.intro (hM5.1.cell 3) (hM5.1.cell 4)))))
  refine hK.out _ _ hS2 (fun hHeld => ?_)
  clear hK K
  try simp only [Act.put, List.setIfInBounds_toArray, List.set_cons_zero, List.set_cons_succ]
  refine wpAnyH_take (i := 8) (oi := ⟨some 37, _, _, _, _, _⟩) (v := ?_) rfl (by kernel_rfl) (by kernel_rfl) (by kernel_rfl) (fun _ _ _ h => h) (Or.inl ⟨by rfl, (by intro w hSw; (try dsimp only at hSw); go_simp; try with_reducible rfl)⟩) hHeld ?_
  try simp only [Act.put, List.setIfInBounds_toArray, List.set_cons_zero, List.set_cons_succ]
  refine wpAnyH_take (i := 9) (oi := ⟨some 38, _, _, _, _, _⟩) (v := ?_) rfl (by kernel_rfl) (by kernel_rfl) (by kernel_rfl) (fun _ _ _ h => h) (Or.inl ⟨by rfl, (by intro w hSw; (try dsimp only at hSw); go_simp; try with_reducible rfl)⟩) hHeld ?_
  try simp only [Act.put, List.setIfInBounds_toArray, List.set_cons_zero, List.set_cons_succ]
  refine wpAnyH_take (i := 10) (oi := ⟨some 8, _, _, _, _, _⟩) (v := ?_) rfl (by kernel_rfl) (by kernel_rfl) (by kernel_rfl) (fun _ _ _ h => h) (Or.inl ⟨by rfl, (by intro w hSw; (try dsimp only at hSw); go_simp; try with_reducible rfl)⟩) hHeld ?_
  try simp only [Act.put, List.setIfInBounds_toArray, List.set_cons_zero, List.set_cons_succ]
  refine wpAnyH_take (i := 11) (oi := ⟨some 9, _, _, _, _, _⟩) (v := ?_) rfl (by kernel_rfl) (by kernel_rfl) (by kernel_rfl) (fun _ _ _ h => h) (Or.inl ⟨by rfl, (by intro w hSw; (try dsimp only at hSw); go_simp; try with_reducible rfl)⟩) hHeld ?_
  try simp only [Act.put, List.setIfInBounds_toArray, List.set_cons_zero, List.set_cons_succ]
  refine wpAnyH_done (by kernel_rfl) ?_ _
  have HS5 := Lib.hid (HS4.out.trans s5)
  have HC5 := Lib.hid hc5
  clear hHeld hS2 s5 hc5 hM5 HM4 HC4 HK4 HS4 HC2 HM2 HK2 HS2 hNw hb hk4
  go_wp2_with (fail)
  go_ret2
  have := HC5.out
  rw [HPP.out] at this
  exact ⟨rfl, χ5, HS5.out, this⟩
end

end Go.Proofs.YtnacjogdndggeaaGreatDoor
end

section
namespace Go.Proofs.YtnacjogdndggeaaGreatDoor
set_option maxRecDepth 100000

/-- There is room for n more records. -/
structure Ample (n : Nat) (T : TapeM) (D : Dsk) (Pd : Pends) : Prop where
  good : T.Good D
  fin : T.row.fin + 2000 * n ≤ 90000000
  files : D.files.length + 2 * n ≤ 1000000
  waits : D.waits.length + 2 * n ≤ 1000000
  recs : T.recs.length + n ≤ 1000000
  room : 1345 * n ≤ D.room
  many : Pd.length ≤ 1000000
  fresh : ∀ id, T.row.fin ≤ id → aget Pd (id : Int) = none

theorem Ample.ready {n : Nat} {T : TapeM} {D : Dsk} {Pd : Pends} (h : Ample (n + 1) T D Pd) : Ready T D Pd where
  good := h.good
  fin := by have := h.fin; omega
  files := by have := h.files; omega
  waits := by have := h.waits; omega
  recs := by have := h.recs; omega
  room := by have := h.room; omega
  many := h.many
  fresh := h.fresh

theorem Ample.put {n : Nat} {T : TapeM} {D : Dsk} {Pd : Pends} (h : Ample (n + 1) T D Pd) {m : Rec} (hr : rightF m = true) (h0 : m.kind ≠ 0) (b : Bool) : Ample n (T.put m b) (T.putD D m b) Pd := by
  have hf : T.row.fin + 2000 ≤ 90000000 := by have := h.fin; omega
  have hc := TapeM.cost_le T h.good.ok hr h0
  have hfin := TapeM.put_fin T h.good.ok m b
  have hsz := TapeM.putD_size h.good (m := m) hf b
  have hln := TapeM.putD_lens T D m b
  have hroom := h.room
  unfold Dsk.room at hroom
  refine ⟨h.good.put hr h0 hf b, ?_, ?_, ?_, ?_, ?_, h.many, fun id hid => h.fresh id ?_⟩
  · have := h.fin; omega
  · have := h.files; omega
  · have := h.waits; omega
  · have := h.recs
    rw [TapeM.put_recs, List.length_append, List.length_singleton]
    omega
  · unfold Dsk.room
    omega
  · omega

end Go.Proofs.YtnacjogdndggeaaGreatDoor
end

section
namespace Go.Proofs.YtnacjogdndggeaaGreatDoor
open Go.Shelf Go.RowKit Go.Lib
set_option maxRecDepth 100000
set_option maxHeartbeats 1000000

def tpA : List UInt8 := [97]
def tpB : List UInt8 := [98]
def tpC : List UInt8 := [108, 111, 110, 103, 45, 116, 111, 112, 105, 99, 45, 110, 97, 109, 101, 49]
def topL : Tops := [(tpA, 1), (tpB, 3), (tpC, 2)]
/-- A disk that bears topics and nothing else. -/
def dskT (l : Tops) (cap : Nat) : Dsk := ⟨[(topicsN, ⟨sealF (putT l), sealF (putT l)⟩)], [], cap⟩
theorem save1 (cap : Nat) : (⟨[], [], cap⟩ : Dsk).save topicsN (sealF (putT [(tpA, 1)])) = dskT [(tpA, 1)] cap := by kernel_rfl
theorem save2 (cap : Nat) : (dskT [(tpA, 1)] cap).save topicsN (sealF (putT [(tpA, 1), (tpB, 3)])) = dskT [(tpA, 1), (tpB, 3)] cap := by kernel_rfl
theorem save3 (cap : Nat) : (dskT [(tpA, 1), (tpB, 3)] cap).save topicsN (sealF (putT topL)) = dskT topL cap := by kernel_rfl
theorem dskT_names (l : Tops) (cap : Nat) : (dskT l cap).names (topicsN ++ newL) = [] ∧ (dskT l cap).names tapeHead = [] := ⟨by kernel_rfl, by kernel_rfl⟩
theorem dskT_room (l : Tops) (cap : Nat) : (dskT l cap).room = (cap : Int) - ((sealF (putT l)).length : Int) := by
  unfold Dsk.room
  rw [show (dskT l cap).size = (sealF (putT l)).length from by simp [Dsk.size, dskT, asum]]
  rfl
theorem len1 : (sealF (putT [(tpA, 1)])).length ≤ 100 := by
  have : decide ((sealF (putT [(tpA, 1)])).length ≤ 100) = true := by kernel_rfl
  exact of_decide_eq_true this
theorem len2 : (sealF (putT [(tpA, 1), (tpB, 3)])).length ≤ 100 := by
  have : decide ((sealF (putT [(tpA, 1), (tpB, 3)])).length ≤ 100) = true := by kernel_rfl
  exact of_decide_eq_true this
theorem len3 : (sealF (putT topL)).length ≤ 100 := by
  have : decide ((sealF (putT topL)).length ≤ 100) = true := by kernel_rfl
  exact of_decide_eq_true this
theorem tape0_ok : tape0.Ok where
  row := (row0_on (D := dskT [] 0) (dskT_names [] 0).2 (by decide) (by decide) (by decide)).ok
  size := rfl
  head := rfl
  room := by decide
  recs := fun p hp => by cases hp
  rise := List.Pairwise.nil
theorem ample0 {n cap : Nat} (hn : n ≤ 1000) (hc : 1345 * n + 100 ≤ cap) : Ample n tape0 (dskT topL cap) [] where
  good := ⟨tape0_ok, row0_on (dskT_names _ _).2 (by decide) (by decide) (by decide), fun q hq => (by cases hq), by
    show Uni _
    exact List.pairwise_singleton _ _⟩
  fin := by rw [show tape0.row.fin = 0 from rfl]; omega
  files := by rw [show (dskT topL cap).files.length = 1 from rfl]; omega
  waits := by rw [show (dskT topL cap).waits.length = 0 from rfl]; omega
  recs := by rw [show tape0.recs.length = 0 from rfl]; omega
  room := by
    rw [dskT_room]
    have := len3
    omega
  many := by simp
  fresh := fun _ _ => rfl
theorem topL_right : ∀ t ∈ topL, plainF t.1 = true ∧ t.2 ≤ 3 := by
  have : topL.all (fun t => plainF t.1 && decide (t.2 ≤ 3)) = true := by kernel_rfl
  intro t ht
  have := List.all_eq_true.1 this t ht
  simpa using this

theorem Core.add {χ χ' : Col} {w w' : World} {s : Nat} {a : SAddr} {now : Int} {T : TapeM} {L L' : Tops} {Pd : Pends} {D D' : Dsk} (h : Core χ w s a now T L Pd D) (st : Stp (fun k => k = 5 ∨ k = 1) χ w χ' w') (ht : IsTops χ' 5 w' a.tb a.mn L') (hd : IsDk χ' 1 w' a.mn D') : Core χ' w' s a now T L' Pd D' where
  own := h.own.stp st (by decide)
  dk := hd
  tp := h.tp.stp st (by decide) (by decide)
  tb := ht
  pd := h.pd.stp st (by decide)
  tab := h.tab.stp st (by decide)

theorem Made_any {χ : Col} {w : World} {mn cap : Nat} {now : Int} (hd : IsDk χ 1 w mn ⟨[], [], cap⟩) (ht : Tab χ w) (hcap : 1000 ≤ cap) (n0 : 0 ≤ now) (n1 : now ≤ 1099511626776) :
    Calls Tryz.prog 8 #[ptr mn, .int .i64 now] w fun e w' => ∃ s a χ', e = .returned (.tuple #[ptr s, .bool true]) ∧ Stp (· ≠ 0) χ w χ' w' ∧ Core χ' w' s a now tape0 topL [] (dskT topL cap) ∧ a.mn = mn := by
  have hN := diskNew_any χ 2 4194304 w
  have HOp := Lib.hid (fun (χ' : Col) (W : World) (ca : Nat) (h1 : IsDk χ' 1 W mn ⟨[], [], cap⟩) (h2 : IsDk χ' 2 W ca (dskNew 4194304)) (h3 : Tab χ' W) => Open_new (now := now) h1 h2 h3 rfl rfl rfl rfl (by
    unfold Dsk.room
    show (1000 : Int) ≤ ((capF 4194304 : Nat) : Int) - ((0 : Nat) : Int)
    have : capF 4194304 = 4194304 := by kernel_rfl
    omega) n0 n1)
  have HAd1 := Lib.hid (fun (χ : Col) (W : World) (p d : Nat) (h : IsTops χ 5 W p d []) (hd : IsDk χ 1 W d ⟨[], [], cap⟩) => Add_good (n := tpA) (q := 1) h hd (by decide) ⟨by decide, by decide⟩ (fun t ht => by cases ht) (by kernel_rfl) (by decide) (by decide) (by kernel_rfl) (by unfold Dsk.room; show (200 : Int) ≤ (cap : Int) - ((0 : Nat) : Int); omega) (by show 0 ≤ _; omega) (by show 0 ≤ _; omega))
  have HAd2 := Lib.hid (fun (χ : Col) (W : World) (p d : Nat) (h : IsTops χ 5 W p d [(tpA, 1)]) (hd : IsDk χ 1 W d (dskT [(tpA, 1)] cap)) => Add_good (n := tpB) (q := 3) h hd (by decide) ⟨by decide, by decide⟩ (by decide) (by kernel_rfl) (by decide) (by decide) (dskT_names _ _).1 (by rw [dskT_room]; have := len1; omega) (by show 1 ≤ _; omega) (by show 0 ≤ _; omega))
  have HAd3 := Lib.hid (fun (χ : Col) (W : World) (p d : Nat) (h : IsTops χ 5 W p d [(tpA, 1), (tpB, 3)]) (hd : IsDk χ 1 W d (dskT [(tpA, 1), (tpB, 3)] cap)) => Add_good (n := tpC) (q := 2) h hd (by decide) ⟨by decide, by decide⟩ (by decide) (by kernel_rfl) (by decide) (by decide) (dskT_names _ _).1 (by rw [dskT_room]; have := len2; omega) (by show 1 ≤ _; omega) (by show 0 ≤ _; omega))
  have HD := Lib.hid hd
  have HT := Lib.hid ht
  clear hd ht
  unfold ptr at *
  go_enter Tryz.func8, Tryz.ntmps8
  go_wp2_with (fail)
  refine hN.mono ?_
  rintro e w1 ⟨rfl, hd2, hb⟩
  have st1 := (Stp.of_below (C := fun _ => False) (χ := χ) hb).paint (Nat.le_refl _) 2
  have hOp := HOp.out _ w1 _ (HD.out.stp st1 (fun h => h)) hd2 (HT.out.stp st1 (fun h => h))
  have HS1 := Lib.hid (st1.mono (C' := (· ≠ 0)) fun k hk => hk.elim)
  clear hN hd2 hb st1 HD HT
  unfold ptr at *
  go_wp2_with (fail)
  refine hOp.mono ?_
  rintro e w2 ⟨s, a, χ2, rfl, s2, hc2, rfl⟩
  have HS2 := Lib.hid (HS1.out.trans s2)
  have HC2 := Lib.hid hc2
  have e3 : w2.cell? ⟨s, 3, none⟩ = some (.pointer (some ⟨a.tb, 0, none⟩)) := hc2.own.1.cell 3
  have hAl := TAll_any hc2.tb (by decide)
  clear hOp s2 hc2 HS1
  go_wp2_with (fail)
  refine hAl.mono ?_
  rintro e w3 ⟨A, c3, rfl, hb⟩
  have HC3 := Lib.hid (HC2.out.below hb)
  have HS3 := Lib.hid (HS2.out.trans (Stp.of_below hb))
  have e4 : w3.cell? ⟨s, 3, none⟩ = some (.pointer (some ⟨a.tb, 0, none⟩)) := HC3.out.own.1.cell 3
  have hA1 := HAd1.out _ w3 _ _ HC3.out.tb HC3.out.dk
  clear hAl hb e3 HC2 HS2
  go_wp2_with (fail)
  refine hA1.mono ?_
  rintro e w4 ⟨rfl, χ4, s4, ht4, hd4⟩
  rw [List.nil_append] at hd4
  rw [save1] at hd4
  have HC4 := Lib.hid (HC3.out.add s4 ht4 hd4)
  have HS4 := Lib.hid (HS3.out.trans (s4.mono fun k hk => by rcases hk with rfl | rfl <;> decide))
  have e5 : w4.cell? ⟨s, 3, none⟩ = some (.pointer (some ⟨a.tb, 0, none⟩)) := HC4.out.own.1.cell 3
  have hA2 := HAd2.out _ w4 _ _ HC4.out.tb HC4.out.dk
  clear hA1 s4 ht4 hd4 e4 HC3 HS3
  go_wp2_with (fail)
  refine hA2.mono ?_
  rintro e w5 ⟨rfl, χ5, s5, ht5, hd5⟩
  rw [show [(tpA, 1)] ++ [(tpB, 3)] = [(tpA, 1), (tpB, 3)] from rfl] at hd5 ht5
  rw [save2] at hd5
  have HC5 := Lib.hid (HC4.out.add s5 ht5 hd5)
  have HS5 := Lib.hid (HS4.out.trans (s5.mono fun k hk => by rcases hk with rfl | rfl <;> decide))
  have e6 : w5.cell? ⟨s, 3, none⟩ = some (.pointer (some ⟨a.tb, 0, none⟩)) := HC5.out.own.1.cell 3
  have hA3 := HAd3.out _ w5 _ _ HC5.out.tb HC5.out.dk
  clear hA2 s5 ht5 hd5 e5 HC4 HS4
  go_wp2_with (fail)
  refine hA3.mono ?_
  rintro e w6 ⟨rfl, χ6, s6, ht6, hd6⟩
  rw [show [(tpA, 1), (tpB, 3)] ++ [(tpC, 2)] = topL from rfl] at hd6 ht6
  rw [save3] at hd6
  have HC6 := Lib.hid (HC5.out.add s6 ht6 hd6)
  have HS6 := Lib.hid (HS5.out.trans (s6.mono fun k hk => by rcases hk with rfl | rfl <;> decide))
  clear hA3 s6 ht6 hd6 e6 HC5 HS5
  go_wp2_with (fail)
  go_ret2
  exact ⟨s, a, χ6, rfl, HS6.out, HC6.out, rfl⟩

end Go.Proofs.YtnacjogdndggeaaGreatDoor
end

section
namespace Go.Proofs.YtnacjogdndggeaaGreatDoor
open Go.Shelf Go.RowKit Go.Lib
set_option maxRecDepth 100000
set_option maxHeartbeats 1000000

theorem awake_any {w : World} (ht : Tab (fun _ => 0) w) :
    Calls Tryz.prog 5 #[] w fun e w' => e = .returned (.bool true) ∧ Below w.heap.size w w' := by
  have hN := diskNew_any (fun _ => 0) 1 10000 w
  have HT := Lib.hid ht
  have HMd := Lib.hid (fun (χ' : Col) (W : World) (mn : Nat) (h1 : IsDk χ' 1 W mn (dskNew 10000)) (h3 : Tab χ' W) => Made_any (cap := 10000) (now := 0) (by rw [show (⟨[], [], 10000⟩ : Dsk) = dskNew 10000 by kernel_rfl]; exact h1) h3 (by omega) (by omega) (by omega))
  have HSa := Lib.hid (fun (χ' : Col) (W : World) (s : Nat) (a : SAddr) (h : Core χ' W s a 0 tape0 topL [] (dskT topL 10000)) => Send_bad (x := ⟨[110, 111, 110, 101], 0, [], [], []⟩) (A := none) (c := 0) h (fun j hj => absurd hj (by simp)) (by simp) (by decide) (show sendE topL ⟨[110, 111, 110, 101], 0, [], [], []⟩ ≠ 0 by rw [show sendE topL ⟨[110, 111, 110, 101], 0, [], [], []⟩ = 12 by kernel_rfl]; decide) true)
  have HSb := Lib.hid (fun (χ' : Col) (W : World) (s : Nat) (a : SAddr) (h : Core χ' W s a 0 tape0 topL [] (dskT topL 10000)) => Send_good (x := ⟨[97], 0, [], [], []⟩) (A := none) (c := 0) h (fun j hj => absurd hj (by simp)) (by simp) (by decide) (show sendE topL ⟨[97], 0, [], [], []⟩ = 0 by kernel_rfl) topL_right (by omega) (by omega) (ample0 (n := 1) (by omega) (by omega)).ready true)
  have HE : Hid (sendE topL ⟨[110, 111, 110, 101], 0, [], [], []⟩ = 12) := Lib.hid (by kernel_rfl)
  clear ht
  unfold ptr at *
  go_enter Tryz.func5, Tryz.ntmps5
  go_wp2_with (fail)
  refine hN.mono ?_
  rintro e w1 ⟨rfl, hd, hb⟩
  have st1 := (Stp.of_below (C := (· ≠ 0)) (χ := fun _ => 0) hb).paint (Nat.le_refl _) 1
  have hM := HMd.out _ w1 _ hd (HT.out.stp st1 (by decide))
  have HS1 := Lib.hid st1
  clear hN hd hb st1 HT
  unfold ptr at *
  go_wp2_with (fail)
  refine hM.mono ?_
  rintro e w2 ⟨s, a, χ2, rfl, s2, hc2, _⟩
  have HS2 := Lib.hid (HS1.out.trans s2)
  have HC2 := Lib.hid hc2
  have hSa := HSa.out _ w2 s a hc2
  rw [HE.out] at hSa
  clear hM s2 hc2 HS1
  unfold wantV at hSa
  simp only [List.length_nil] at hSa
  rw [show S [110, 111, 110, 101] = ⟨#[110, 111, 110, 101]⟩ from rfl, show S [] = ⟨#[]⟩ from rfl] at hSa
  go_wp2_with (fail)
  refine hSa.mono ?_
  rintro e w3 ⟨rfl, hb⟩
  have HS3 := Lib.hid (HS2.out.trans (Stp.of_below hb))
  have hSb := HSb.out _ w3 s a (HC2.out.below hb)
  clear hSa hb HS2 HC2
  unfold wantV at hSb
  simp only [List.length_nil] at hSb
  rw [show S [97] = ⟨#[97]⟩ from rfl, show S [] = ⟨#[]⟩ from rfl] at hSb
  go_wp2_with (fail)
  refine hSb.mono ?_
  rintro e w4 ⟨rfl, χ4, s4, _⟩
  have HS4 := Lib.hid (HS3.out.trans s4)
  clear hSb s4 HS3
  go_wp2_with (fail)
  go_ret
  exact ⟨rfl, HS4.out.below (fun k _ h => h rfl)⟩

end Go.Proofs.YtnacjogdndggeaaGreatDoor
end
