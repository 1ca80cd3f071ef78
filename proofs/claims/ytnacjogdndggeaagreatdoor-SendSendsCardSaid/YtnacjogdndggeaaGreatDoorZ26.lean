/- Layer 8 (tape): a record's bytes, and those of the filler ahead of it. Layer 8 (tape): a record is noted. Layer 8 (tape): Append. Plain facts on what a record that is put makes of tape and disk. -/
import Derived.Test.YtnacjogdndggeaaGreatDoorZ17
import Derived.Test.YtnacjogdndggeaaGreatDoorZ25
import Derived.Test.YtnacjogdndggeaaGreatDoorZ11
import Derived.Test.YtnacjogdndggeaaGreatDoorZ12
import Derived.Test.YtnacjogdndggeaaGreatDoorZ19
import Derived.Test.YtnacjogdndggeaaGreatDoorZ22
section
namespace Go.Proofs.YtnacjogdndggeaaGreatDoor
open Go.Shelf Go.RowKit Go.Lib
set_option maxRecDepth 100000
set_option maxHeartbeats 1000000

theorem TLaid_good {χ : Col} {c cr t d k : Nat} {T : TapeM} {w : World} {m : Rec} {A : Option Addr} (h : IsTape χ c cr w t d T) (hok : T.Ok) (hr : RSa w A m.keys) (hm : rightF m = true) (hk : m.kind = 1 ∨ m.kind = 2) :
    Calls Tryz.prog 142 #[.pointer (some ⟨t, 0, none⟩), .agg (recV m A k)] w fun e w' => e = .returned (.tuple #[.string (S (if T.gap m then fillF T.row.room else [])), .string (S (putF m)), .bool true]) ∧ Below w.heap.size w w' := by
  have h0 : m.kind ≠ 0 := by omega
  obtain ⟨r, g, mp, iv, h⟩ := h
  have hpl := putF_len m hm h0
  have hro := TapeM.room_le T hok
  have hro3 := hok.room
  have HP := Lib.hid (fun (w : World) (hT : IsTab g w) (hr : RSa w A m.keys) => Put_good g m A k w hT hr hm hk)
  have HG : Hid (T.gap m = !(decide (T.row.room = (putF m).length) || decide ((putF m).length + 3 ≤ T.row.room))) := rfl
  have HRm := Lib.hid (fun (w : World) (h : IsRow χ cr w r d T.row) => Room_row h hok.row)
  have HF := Lib.hid (fun (w : World) => Fill_good T.row.room w hro3 hro)
  generalize T.gap m = gp at *
  generalize putF m = q at *
  have hB := (Below.refl w.heap.size w).alloc (Nat.le_refl _) (.cells (recV m A k) 56)
  have hbn := Blk.new w (recV m A k) 56
  have tlt := h.own.1.lt
  have HT1 := Lib.hid ((h.own.1.below hB).drew)
  have HR1 := Lib.hid (h.row.below (hB.drew))
  have HTB1 := Lib.hid (Blk.below h.tab hB.drew)
  have HK1 := Lib.hid (hr.below hB.drew)
  have HB1 := Lib.hid hB.drew
  have HM1 := Lib.hid hbn.drew
  clear h hr hB hbn hok hm
  generalize T.row.room = room at *
  obtain ⟨fl, HFL⟩ : ∃ fl : List UInt8, Hid (fl = if gp then fillF room else []) := ⟨_, rfl⟩
  rw [← HFL.out]
  obtain ⟨kind, queue, due, retry, ref, born, topic, tag, body, keys⟩ := m
  simp only [recV] at *
  have hkb : (kind == 0) = false := by simpa using h0
  go_enter Tryz.func142, Tryz.ntmps142
  go_upto_region 1 with (fail)
  have e0 := And.intro (HT1.out.cell 1) (And.intro (HM1.out.cell 0) (And.intro (HM1.out.cell 1) (And.intro (HM1.out.cell 2) (And.intro (HM1.out.cell 3) (And.intro (HM1.out.cell 4) (And.intro (HM1.out.cell 5) (And.intro (HM1.out.cell 6) (And.intro (HM1.out.cell 7) (And.intro (HM1.out.cell 8) (HM1.out.cell 9))))))))))
  refine wp_region_held_drew (S := fun w' => w'.cell? ⟨t, 1, none⟩ = some (.pointer (some ⟨g, 0, none⟩)) ∧ w'.cell? ⟨w.heap.size, 0, none⟩ = some (.int .i64 kind) ∧ w'.cell? ⟨w.heap.size, 1, none⟩ = some (.int .i64 queue) ∧ w'.cell? ⟨w.heap.size, 2, none⟩ = some (.int .i64 due) ∧ w'.cell? ⟨w.heap.size, 3, none⟩ = some (.int .i64 retry) ∧ w'.cell? ⟨w.heap.size, 4, none⟩ = some (.int .i64 ref) ∧ w'.cell? ⟨w.heap.size, 5, none⟩ = some (.int .i64 born) ∧ w'.cell? ⟨w.heap.size, 6, none⟩ = some (.string (S topic)) ∧ w'.cell? ⟨w.heap.size, 7, none⟩ = some (.string (S tag)) ∧ w'.cell? ⟨w.heap.size, 8, none⟩ = some (.string (S body)) ∧ w'.cell? ⟨w.heap.size, 9, none⟩ = some (.slice A keys.length k)) (by kernel_rfl) e0 (fun hHeld => ?_)
  generalize (w.alloc (.cells #[.int .i64 kind, .int .i64 queue, .int .i64 due, .int .i64 retry, .int .i64 ref, .int .i64 born, .string (S topic), .string (S tag), .string (S body), .slice A keys.length k] 56)).drew = w1 at *
  clear e0
  refine wpAnyH_take (i := 0) (oi := ⟨some 14, _, _, _, _, _⟩) (v := ?_) rfl (by kernel_rfl) (by kernel_rfl) (by kernel_rfl) (fun _ _ _ h => h) (Or.inl ⟨by rfl, (by intro w hSw; (try dsimp only at hSw); go_simp; try with_reducible rfl)⟩) hHeld ?_
  try simp only [Act.put, List.setIfInBounds_toArray, List.set_cons_zero, List.set_cons_succ]
  refine wpAnyH_take (i := 4) (oi := ⟨some 18, _, _, _, _, _⟩) (v := ?_) rfl (by kernel_rfl) (by kernel_rfl) (by kernel_rfl) (fun _ _ _ h => h) (Or.inl ⟨by rfl, (by intro w hSw; (try dsimp only at hSw); go_simp; try with_reducible rfl)⟩) hHeld ?_
  try simp only [Act.put, List.setIfInBounds_toArray, List.set_cons_zero, List.set_cons_succ]
  refine wpAnyH_take (i := 1) (oi := ⟨some 15, _, _, _, _, _⟩) (v := ?_) rfl (by kernel_rfl) (by kernel_rfl) (by kernel_rfl) (fun _ _ _ h => h) (Or.inl ⟨by rfl, (by intro w hSw; (try dsimp only at hSw); go_simp; try with_reducible rfl)⟩) hHeld ?_
  try simp only [Act.put, List.setIfInBounds_toArray, List.set_cons_zero, List.set_cons_succ]
  refine wpAnyH_take (i := 2) (oi := ⟨some 16, _, _, _, _, _⟩) (v := ?_) rfl (by kernel_rfl) (by kernel_rfl) (by kernel_rfl) (fun _ _ _ h => h) (Or.inl ⟨by rfl, (by intro w hSw; (try dsimp only at hSw); go_simp; try with_reducible rfl)⟩) hHeld ?_
  try simp only [Act.put, List.setIfInBounds_toArray, List.set_cons_zero, List.set_cons_succ]
  refine wpAnyH_take (i := 3) (oi := ⟨some 17, _, _, _, _, _⟩) (v := ?_) rfl (by kernel_rfl) (by kernel_rfl) (by kernel_rfl) (fun _ _ _ h => h) (Or.inl ⟨by rfl, (by intro w hSw; (try dsimp only at hSw); go_simp; try with_reducible rfl)⟩) hHeld ?_
  try simp only [Act.put, List.setIfInBounds_toArray, List.set_cons_zero, List.set_cons_succ]
  refine wpAnyH_ready (rs := [5]) (by kernel_rfl) (by simp) ?_
  refine AllReadyH.cons (o := ⟨some 19, _, _, _, _, _⟩) rfl (fun K hK => ?_) AllReadyH.nil
  go_simp
  refine (HP.out w1 HTB1.out HK1.out).mono ?_
  rintro e w2 ⟨rfl, hb⟩
  have HT2 := Lib.hid (HT1.out.below hb)
  have HM2 := Lib.hid (HM1.out.below hb)
  have HR2 := Lib.hid (HR1.out.below hb)
  have HB2 := Lib.hid (HB1.out.trans (hb.mono HB1.out.size))
  have hS2 := And.intro (HT2.out.cell 1) (And.intro (HM2.out.cell 0) (And.intro (HM2.out.cell 1) (And.intro (HM2.out.cell 2) (And.intro (HM2.out.cell 3) (And.intro (HM2.out.cell 4) (And.intro (HM2.out.cell 5) (And.intro (HM2.out.cell 6) (And.intro (HM2.out.cell 7) (And.intro (HM2.out.cell 8) (HM2.out.cell 9))))))))))
  refine hK.out _ _ hS2 (fun hHeld => ?_)
  clear hK K
  try simp only [Act.put, List.setIfInBounds_toArray, List.set_cons_zero, List.set_cons_succ]
  refine wpAnyH_take (i := 6) (oi := ⟨some 13, _, _, _, _, _⟩) (v := ?_) rfl (by kernel_rfl) (by kernel_rfl) (by kernel_rfl) (fun _ _ _ h => h) (Or.inl ⟨by rfl, (by intro w hSw; (try dsimp only at hSw); go_simp; try with_reducible rfl)⟩) hHeld ?_
  try simp only [Act.put, List.setIfInBounds_toArray, List.set_cons_zero, List.set_cons_succ]
  refine wpAnyH_take (i := 7) (oi := ⟨some 20, _, _, _, _, _⟩) (v := ?_) rfl (by kernel_rfl) (by kernel_rfl) (by kernel_rfl) (fun _ _ _ h => h) (Or.inl ⟨by rfl, (by intro w hSw; (try dsimp only at hSw); go_simp; try with_reducible rfl)⟩) hHeld ?_
  try simp only [Act.put, List.setIfInBounds_toArray, List.set_cons_zero, List.set_cons_succ]
  refine wpAnyH_take (i := 8) (oi := ⟨some 21, _, _, _, _, _⟩) (v := ?_) rfl (by kernel_rfl) (by kernel_rfl) (by kernel_rfl) (fun _ _ _ h => h) (Or.inl ⟨by rfl, (by intro w hSw; (try dsimp only at hSw); go_simp; try with_reducible rfl)⟩) hHeld ?_
  try simp only [Act.put, List.setIfInBounds_toArray, List.set_cons_zero, List.set_cons_succ]
  refine wpAnyH_take (i := 9) (oi := ⟨some 7, _, _, _, _, _⟩) (v := ?_) rfl (by kernel_rfl) (by kernel_rfl) (by kernel_rfl) (fun _ _ _ h => h) (Or.inl ⟨by rfl, (by intro w hSw; (try dsimp only at hSw); go_simp; try with_reducible rfl)⟩) hHeld ?_
  try simp only [Act.put, List.setIfInBounds_toArray, List.set_cons_zero, List.set_cons_succ]
  refine wpAnyH_take (i := 10) (oi := ⟨some 8, _, _, _, _, _⟩) (v := ?_) rfl (by kernel_rfl) (by kernel_rfl) (by kernel_rfl) (fun _ _ _ h => h) (Or.inl ⟨by rfl, (by intro w hSw; (try dsimp only at hSw); go_simp; try with_reducible rfl)⟩) hHeld ?_
  try simp only [Act.put, List.setIfInBounds_toArray, List.set_cons_zero, List.set_cons_succ]
  refine wpAnyH_done (by kernel_rfl) ?_ _
  clear hHeld hS2 hb HT1 HM1 HR1 HTB1 HK1 HB1 HP
  have e0 := HT2.out.cell 0
  have e00 := HM2.out.cell 0
  go_wp2_with (fail)
  refine (HRm.out w2 HR2.out).mono ?_
  rintro e w' ⟨rfl, nd, rfl⟩
  have HB3 := Lib.hid (HB2.out.trans ((below_drewN w2 nd).mono HB2.out.size))
  clear HT2 HM2 HR2 HB2 HRm e0 e00
  generalize w2.drewN nd = w3 at *
  have hwr : wrap64 ((room : Int) - (q.length : Int)) = (room : Int) - (q.length : Int) := IntWalk.wrap64_in _ (by omega)
  obtain ⟨x, HX⟩ : ∃ x : Int, Hid ((room : Int) - (q.length : Int) = x) := ⟨_, rfl⟩
  have hx := HX.out
  rw [hx] at hwr
  by_cases hx0 : x = 0
  · have hg : Hid (gp = false) := Lib.hid (by rw [HG.out]; simp; omega)
    subst hx0
    go_wp2_with (fail)
    go_ret3
    exact ⟨by rw [HFL.out, hg.out]; rfl, HB3.out⟩
  · have hx1 : (x == 0) = false := by simpa using hx0
    by_cases hx3 : 3 ≤ x
    · have hg : Hid (gp = false) := Lib.hid (by rw [HG.out]; simp; omega)
      go_wp2_with (fail)
      go_ret3
      exact ⟨by rw [HFL.out, hg.out]; rfl, HB3.out⟩
    · have hg : Hid (gp = true) := Lib.hid (by rw [HG.out]; simp; omega)
      have hx3b : decide (3 ≤ x) = false := decide_eq_false hx3
      have hx3c : x < 3 := by omega
      go_wp2_with (fail)
      refine (HF.out w3).mono ?_
      rintro e w4 ⟨rfl, hb⟩
      go_wp2_with (fail)
      go_ret3
      exact ⟨by rw [HFL.out, hg.out]; rfl, HB3.out.trans (hb.mono HB3.out.size)⟩

end Go.Proofs.YtnacjogdndggeaaGreatDoor
end

section
namespace Go.Proofs.YtnacjogdndggeaaGreatDoor
open Go.Shelf Go.RowKit Go.Lib
set_option maxRecDepth 100000
set_option maxHeartbeats 1000000

def TapeM.noted (T : TapeM) (id : Nat) (m : Rec) : TapeM := { T with recs := T.recs ++ [(id, m)], last := m.born }

theorem note_good {χ : Col} {c cr t d k id : Nat} {T : TapeM} {w : World} {m : Rec} {A : Option Addr} (h : IsTape χ c cr w t d T) (hcr : cr ≠ c) (h0 : m.kind ≠ 0) (hN : T.recs.length ≤ 1000000) (hid : id ≤ 90000000) (hlg : (putF m).length ≤ 1000)
    (hsz : (T.noted id m).sizes = aput (Lit.int .i64) (id : Int) (putF m).length T.sizes) :
    Calls Tryz.prog 145 #[.pointer (some ⟨t, 0, none⟩), .int .i64 (id : Int), .int .i64 ((putF m).length : Int), .agg (recV m A k)] w fun e w' => e = .returned (.tuple #[]) ∧ ∃ χ', Stp (· = c) χ w χ' w' ∧ IsTape χ' c cr w' t d (T.noted id m) := by
  obtain ⟨r, g, mp, iv, h⟩ := h
  obtain ⟨i0, hi, hz0, hz1, hz2⟩ := info_parts int_info
  have HSZ := Lib.hid hsz
  have hNl : (T.noted id m).recs.length = T.recs.length + 1 := by simp [TapeM.noted]
  have hids : (T.noted id m).ids = T.ids ++ [id] := by simp [TapeM.noted, TapeM.ids]
  have HI := Lib.hid hids
  have hsl : (T.noted id m).sizes.length = T.recs.length + 1 := by simp [TapeM.noted, TapeM.sizes]
  have HSL := Lib.hid hsl
  have HNL := Lib.hid hNl
  have HLA : Hid ((T.noted id m).last = m.born) := rfl
  have HRW : Hid ((T.noted id m).row = T.row) := rfl
  generalize T.noted id m = T' at *
  have hB := (Below.refl w.heap.size w).alloc (Nat.le_refl _) (.cells (recV m A k) 56)
  have HM1 := Lib.hid (Blk.new w (recV m A k) 56)
  have tlt := h.own.1.lt
  -- blocks apart
  have hti := h.own.1.ne_row h.ids (by decide)
  have htm := h.own.1.ne_map h.map
  have hgi := Blk.ne_row h.tab h.ids (by decide)
  have hgm := Blk.ne_map h.tab h.map
  have hgt := Blk.ne h.tab h.own.1 (by decide)
  have hmi := map_ne_row h.map h.ids
  have hiv := fun b hb => (h.ids.lt b hb).2
  have HH := Lib.hid h
  have HO1 := Lib.hid (h.own.1.below hB)
  have HI1 := Lib.hid (h.ids.alloc (.cells (recV m A k) 56))
  have HG1 := Lib.hid (Blk.below h.tab hB)
  have HP1 := Lib.hid (ownsMap_gr (F := fun _ => False) h.map (Gr.of_below hB) (fun h => h))
  have HS1 := Lib.hid (Stp.of_below (C := (· = c)) (χ := χ) hB)
  have hsize1 : w.heap.size < (w.alloc (.cells (recV m A k) 56)).heap.size := HM1.out.lt
  have hkind := h0
  have hbw : w.heap.size ≠ t := by omega
  have hmw : mp ≠ w.heap.size := by have := h.map.lt; omega
  have hciv := h.cids
  have hcm := h.cmap
  have hcg := h.ctab
  have hct := h.own.2
  clear h hB hsz
  generalize putF m = q at *
  obtain ⟨kind, queue, due, retry, ref, born, topic, tag, body, keys⟩ := m
  simp only [recV] at *
  go_enter Tryz.func145, Tryz.ntmps145
  go_upto_region 1 with (fail)
  generalize w.alloc (.cells #[.int .i64 kind, .int .i64 queue, .int .i64 due, .int .i64 retry, .int .i64 ref, .int .i64 born, .string (S topic), .string (S tag), .string (S body), .slice A keys.length k] 56) = w1 at *
  have e0 := HM1.out.cell 0
  have c2 := HO1.out.cell 2
  have hown1 := HI1.out.alloc (.cells #[.int .i64 (id : Int)] 3)
  have hblk1 := HO1.out.alloc (.cells #[.int .i64 (id : Int)] 3)
  have c2n := hblk1.cell 2
  have f2n := hblk1.frozen 2
  have hmx : T.recs.length + 1 ≤ maxLen := by unfold maxLen; omega
  have hby : (T.recs.length + 1) * 8 ≤ 140737488355328 := by omega
  go_upto_region 2 with (fail)
  go_upto_region 3 with (at_builtin; refine wpList_append_own_at _ rfl _ _ 35 rfl 0 3 i0 _ 1 8 Tryz.underlying35 hi hz0 hz1 hz2 rfl (by decide) _ _ _ rfl hown1 ⟨w1.heap.size, 0, none⟩ 1 1 [.int .i64 (id : Int)] rfl rfl (cell_one_new w1 _ _) (by simp [Value.oneCell']) hmx hby (Nat.zero_le _) ?_; intro v2 w2 hown2 hg2 _ hat2; obtain ⟨g2, cap2, rfl⟩ := row_shape hown2; have hblk2 := hblk1.grown hg2 hti; have c2m := hblk2.cell 2; have f2m := hblk2.frozen 2)
  have hrow2 := hti
  have ht2 : (Value.slice (some ⟨g2, 0, none⟩) (T.recs.length + 1) cap2).ownBlock ≠ some t := hblk2.ne_row hown2 (by decide)
  have hs3 := grown_set w2 t 2 (.slice (some ⟨g2, 0, none⟩) (T.recs.length + 1) cap2)
  have hx := hblk2.set 2 (.slice (some ⟨g2, 0, none⟩) (T.recs.length + 1) cap2)
  simp only [List.setIfInBounds_toArray, List.set_cons_zero, List.set_cons_succ] at hx
  have HO3 := Lib.hid hx
  have HI3 := Lib.hid (hown2.kept hs3 (.inr ht2))
  have HG3 := Lib.hid (((HG1.out.alloc (.cells #[.int .i64 (id : Int)] 3)).grown hg2 hgi).grown hs3 (fun e => hgt (by injection e with e; exact e.symm)))
  have HM3 := Lib.hid (((HM1.out.alloc (.cells #[.int .i64 (id : Int)] 3)).grown hg2 (fun e => by have := hiv _ e; omega)).grown hs3 (fun e => hbw (by injection e with e; exact e.symm)))
  have hmp2 := ownsMap_gr (F := fun k => iv.ownBlock = some k) (HP1.out.alloc (.cells #[.int .i64 (id : Int)] 3)) (Gr.of_grown hg2 (fun k hk => .inl hk)) hmi
  have hmp3 := ownsMap_gr (F := fun k => k = t) hmp2 ((Gr.refl (fun k => k = t) w2).set (p := ⟨t, 2, none⟩) (.inl rfl) (.slice (some ⟨g2, 0, none⟩) (T.recs.length + 1) cap2)) (fun e => htm e.symm)
  have hcol2 : ∀ k, iv.ownBlock = some k → χ k = c := hciv
  have hlt1 : ∀ k, iv.ownBlock = some k → k < w.heap.size := hiv
  have HS3 := Lib.hid (((HS1.out.alloc (.cells #[.int .i64 (id : Int)] 3)).trans (Stp.of_grown hg2 (fun k hk => .inl (hcol2 k hk)))).set (p := ⟨t, 2, none⟩) (.inl hct) (.slice (some ⟨g2, 0, none⟩) (T.recs.length + 1) cap2))
  have HN2 := Lib.hid (fun b (hb : (Value.slice (some ⟨g2, 0, none⟩) (T.recs.length + 1) cap2).ownBlock = some b) => show w.heap.size ≤ b ∨ iv.ownBlock = some b from by
    rcases hat2 with h1 | h1
    · exact .inr (h1.symm.trans hb)
    · have hb := h1.symm.trans hb
      injection hb with hb
      simp only [World.size_alloc] at hb
      exact .inl (by omega))
  clear hx hown2 hat2 hblk2 c2m f2m hown1 hblk1 c2n f2n hg2 hs3 hmp2 ht2 hrow2 HI1 HG1 HP1 HS1 HM1 HO1 e0 c2
  generalize w2.setCell ⟨t, 2, none⟩ (.slice (some ⟨g2, 0, none⟩) (T.recs.length + 1) cap2) = w3 at *
  have c3 := HO3.out.cell 3
  have hkey := Go.Maps.keyOf_int_mk Tryz.underlying3 (i64_wf (a := (id : Int)) (by omega) (by omega))
  have hpe := plainElem_int (H := Unit) Tryz.underlying3 (i64_wf (a := (q.length : Int)) (by omega) (by omega))
  have hmax : T.recs.length < maxLen := by unfold maxLen; omega
  go_upto_region 4 with (at_mapUpdate; refine wpList_mapUpdate_own _ rfl _ _ _ 85 rfl 3 3 pend_keyed Tryz.underlying85 (plainElem Tryz.prog 3) mp T.recs.length _ rfl hmp3 hmax _ _ (.int .i64 (id : Int)) rfl rfl hkey _ [] hpe ?_; intro w4 hown4 hgrow4)
  have hs4 := hgrow4
  have hmt : mp ≠ t := fun e => htm e.symm
  have ht4 := HO3.out.grown hgrow4 (fun e => hmt (by injection e))
  have hrw4 : w4.ownsRow 0 3 1 (.slice (some ⟨g2, 0, none⟩) (T.recs.length + 1) cap2) (T.recs.length + 1) (natV T.ids ++ [.int .i64 (id : Int)]) := HI3.out.kept hgrow4 (.inr (map_ne_row hmp3 HI3.out))
  have HG4 := Lib.hid (HG3.out.grown hgrow4 (fun e => hgm (by injection e with e; exact e.symm)))
  have hM4 := HM3.out.grown hgrow4 (fun e => by injection e with e; exact hmw e)
  have hx := ht4.set 4 (.int .i64 born)
  simp only [List.setIfInBounds_toArray, List.set_cons_zero, List.set_cons_succ] at hx
  have HO5 := Lib.hid hx
  have c4 := ht4.cell 4
  have f4 := ht4.frozen 4
  have e5 := hM4.cell 5
  have hs5 := grown_set w4 t 4 (.int .i64 born)
  have hnt : (Value.slice (some ⟨g2, 0, none⟩) (T.recs.length + 1) cap2).ownBlock ≠ some t := ht4.ne_row hrw4 (by decide)
  have HR5 := Lib.hid (hrw4.kept hs5 (.inr hnt))
  have HG5 := Lib.hid (HG4.out.grown hs5 (fun e => hgt (by injection e with e; exact e.symm)))
  have HP5 := Lib.hid (ownsMap_gr (F := fun k => k = t) hown4 ((Gr.refl (fun k => k = t) w4).set (p := ⟨t, 4, none⟩) (.inl rfl) (.int .i64 born)) hmt)
  have HS5 := Lib.hid ((HS3.out.trans (Stp.of_grown hgrow4 (fun k hk => .inl (by injection hk with hk; rw [← hk]; exact hcm)))).set (p := ⟨t, 4, none⟩) (.inl hct) (.int .i64 born))
  clear hx ht4 hM4 hs5 hs4 hrw4 HG4 HO3 HI3 HG3 HM3 HS3 hgrow4 hmp3 c3 hown4
  go_wp2_with (fail)
  go_end0
  have hpaint := HS5.out.paint (n := w.heap.size) (Nat.le_refl _) c
  refine ⟨rfl, paint χ w.heap.size c, hpaint, r, g, mp, .slice (some ⟨g2, 0, none⟩) (T.recs.length + 1) cap2, ?_⟩
  exact {
    own := ⟨by rw [HLA.out]; exact HO5.out, (paint_old tlt).trans hct⟩
    row := by rw [HRW.out]; exact HH.out.row.stp hpaint hcr
    tab := HG5.out
    ctab := (paint_old (Blk.lt HH.out.tab)).trans hcg
    ids := by
      rw [HNL.out, HI.out]
      simpa [natV] using HR5.out
    cids := fun b hb => by
      rcases HN2.out b hb with h1 | h1
      · exact paint_new (by omega)
      · rw [paint_old (hiv b h1)]
        exact hciv b h1
    map := by
      have h1 := HP5.out
      have h2 : (sizesD T.sizes).put (.int .i64 (id : Int)) (.lit (.int .i64 (q.length : Int))) = sizesD T'.sizes := by
        rw [HSZ.out]
        exact amap_put (fun _ (n : Nat) => (.lit (.int .i64 (n : Int)) : DataW Unit)) kfI (id : Int) q.length T.sizes
      rw [h2] at h1
      rw [HNL.out]
      exact h1
    cmap := (paint_old HH.out.map.lt).trans hcm }

end Go.Proofs.YtnacjogdndggeaaGreatDoor
end

section
namespace Go.Proofs.YtnacjogdndggeaaGreatDoor
open Go.Shelf Go.RowKit Go.Lib
set_option maxRecDepth 100000
set_option maxHeartbeats 1000000

theorem RowM.length_write (R : RowM) (D : Dsk) (s : List UInt8) : (R.write D s).files.length ≤ D.files.length + 1 := by
  unfold RowM.write RowM.made
  split
  · refine Nat.le_trans (Dsk.length_write _ _ _ _) (Dsk.length_create _ _)
  · refine Nat.le_trans (Dsk.length_write _ _ _ _) (by omega)
theorem waits_len (D : Dsk) (n : List UInt8) (k : Nat) (s : List UInt8) : (D.write n k s).waits.length ≤ D.waits.length + 1 := by
  unfold Dsk.write
  split
  · omega
  · split
    · omega
    · simp
theorem RowM.waits_write (R : RowM) (D : Dsk) (s : List UInt8) : (R.write D s).waits.length ≤ D.waits.length + 1 := by
  unfold RowM.write
  refine Nat.le_trans (waits_len _ _ _ _) ?_
  rw [RowM.made_waits]
  omega

theorem Append_in {χ : Col} {c cr cd t d : Nat} {T : TapeM} {D : Dsk} {w : World} {r g mp : Nat} {iv : Value} (h : TapeAt χ c cr w t d T r g mp iv) (hd : IsDk χ cd w d D) (hon : T.row.On D) (ht : Tab χ w)
    (h1 : c ≠ cr) (h2 : cr ≠ cd) (h3 : c ≠ cd) (r0 : cr ≠ 0) (d0 : cd ≠ 0) (s : List UInt8) (hs : s ≠ []) (hr : s.length ≤ T.row.room) (hdr : (s.length : Int) ≤ D.room) (hfb : T.row.fin + s.length ≤ 90000000) (hN : D.files.length ≤ 1000000000) (hW : D.waits.length ≤ 1000000000) :
    Calls Tryz.prog 144 #[.pointer (some ⟨r, 0, none⟩), .string (S s)] w fun e w' => e = .returned (.tuple #[.int .i64 T.row.fin, .int .i64 0]) ∧
      ∃ χ', Stp (fun k => k = cr ∨ k = cd) χ w χ' w' ∧ TapeAt χ' c cr w' t d { T with row := T.row.append s } r g mp iv ∧ IsDk χ' cd w' d (T.row.write D s) := by
  refine (Append_row h.row hd hon ht h2 r0 d0 s hs hr hdr hfb hN hW).mono ?_
  rintro e w' ⟨rfl, χ', st, hr', hd'⟩
  exact ⟨rfl, χ', st, h.withRow st (by omega) hr', hd'⟩
theorem TapeAt.below {χ : Col} {c cr t d : Nat} {T : TapeM} {w w' : World} {r g m : Nat} {iv : Value} (h : TapeAt χ c cr w t d T r g m iv) (hb : Below w.heap.size w w') : TapeAt χ c cr w' t d T r g m iv :=
  h.stp (C := fun _ => False) (Stp.of_below hb) (fun h => h) (fun h => h)

theorem Append_tape {χ : Col} {c cr cd t d k : Nat} {T : TapeM} {D : Dsk} {w : World} {m : Rec} {A : Option Addr} (h : IsTape χ c cr w t d T) (hd : IsDk χ cd w d D) (hok : T.Ok) (hon : T.row.On D) (ht : Tab χ w)
    (h1 : c ≠ cr) (h2 : cr ≠ cd) (h3 : c ≠ cd) (c0 : c ≠ 0) (r0 : cr ≠ 0) (d0 : cd ≠ 0) (hr : RSa w A m.keys) (hm : rightF m = true) (hk : m.kind = 1 ∨ m.kind = 2)
    (hroom : (T.cost m : Int) ≤ D.room) (hfin : T.row.fin + 2000 ≤ 90000000) (hN : D.files.length ≤ 1000000) (hW : D.waits.length ≤ 1000000) (hrl : T.recs.length ≤ 1000000) :
    Calls Tryz.prog 84 #[.pointer (some ⟨t, 0, none⟩), .agg (recV m A k)] w fun e w' => e = .returned (.tuple #[.int .i64 ((T.row1 m).fin : Int), .int .i64 0]) ∧
      ∃ χ', Stp (fun x => x = c ∨ x = cr ∨ x = cd) χ w χ' w' ∧ IsTape χ' c cr w' t d (T.append m) ∧ IsDk χ' cd w' d (T.write D m) := by
  have h0 : m.kind ≠ 0 := by omega
  have hpl := putF_len m hm h0
  have hro := TapeM.room_le T hok
  have hro3 := hok.room
  have hrok := TapeM.row1_ok T hok m (by omega)
  have hr1 := TapeM.row1_room T hok hm h0
  have hr1f := TapeM.row1_fin T hok m
  have hcl := TapeM.cost_le T hok hm h0
  have hon1 := TapeM.on1 T hok hon m (by omega)
  have hB := (Below.refl w.heap.size w).alloc (Nat.le_refl _) (.cells (recV m A k) 56)
  have s1 := (Stp.of_below (C := fun _ => False) (χ := χ) hB).paint (Nat.le_refl _) 0
  have HS1 := Lib.hid s1
  have HT1 := Lib.hid (h.stp s1 (fun h => h) (fun h => h))
  have HD1 := Lib.hid (hd.stp s1 (fun h => h))
  have HTB1 := Lib.hid (ht.stp s1 (fun h => h))
  have HM1 := Lib.hid (show CBlk (paint χ w.heap.size 0) 0 _ _ _ _ from ⟨Blk.new w (recV m A k) 56, paint_new (Nat.le_refl _)⟩)
  have HL1 := Lib.hid (TLaid_good (k := k) HT1.out hok (hr.below hB) hm hk)
  have hok2 := hok
  have hfl : (fillF T.row.room).length = T.row.room := TapeM.fillF_len hro3
  have HG : Hid (T.gap m = true → T.row1 m = T.row.append (fillF T.row.room) ∧ T.disk1 D m = T.row.write D (fillF T.row.room) ∧ T.cost m = T.row.room + (putF m).length) := Lib.hid fun hg => by
    unfold TapeM.row1 TapeM.disk1 TapeM.cost
    rw [hg]
    exact ⟨rfl, rfl, rfl⟩
  have HG0 : Hid (T.gap m = false → T.row1 m = T.row ∧ T.disk1 D m = D ∧ T.cost m = (putF m).length) := Lib.hid fun hg => by
    unfold TapeM.row1 TapeM.disk1 TapeM.cost
    rw [hg]
    exact ⟨rfl, rfl, by simp⟩
  clear s1 h hd ht hr hB
  obtain ⟨fl, HFL⟩ : ∃ fl : List UInt8, Hid (fl = if T.gap m = true then fillF T.row.room else []) := ⟨_, rfl⟩
  have HQ : Hid (fl.length + (putF m).length = T.cost m ∧ fl.length ≤ 1024) := Lib.hid (by
    cases hg : T.gap m with
    | true =>
      have h1 := (HG.out hg).2.2
      rw [HFL.out, hg, if_pos rfl, hfl]
      omega
    | false =>
      have h1 := (HG0.out hg).2.2
      rw [HFL.out, hg, if_neg (by decide)]
      simp
      omega)
  rw [← HFL.out] at HL1
  have HNT := Lib.hid (fun (χ : Col) (W : World) (T2 : TapeM) (h : IsTape χ c cr W t d T2) (hrec : T2.recs = T.recs) => note_good (A := A) (k := k) (id := (T.row1 m).fin) h (fun e => h1 e.symm) h0 (by rw [hrec]; exact hrl) (by omega) (by omega) (by
    have := TapeM.sizes_append T hok m
    have e1 : (T2.noted (T.row1 m).fin m).sizes = (T.append m).sizes := by unfold TapeM.noted TapeM.append TapeM.sizes; rw [hrec]
    have e2 : T2.sizes = T.sizes := by unfold TapeM.sizes; rw [hrec]
    rw [e1, e2]
    exact this))
  have HAP : Hid (T.append m = ({ T with row := (T.row1 m).append (putF m) } : TapeM).noted (T.row1 m).fin m) := rfl
  have HWR : Hid (T.write D m = (T.row1 m).write (T.disk1 D m) (putF m)) := rfl
  have HD1R := Lib.hid (And.intro hroom (And.intro hN hW))
  have HOK := Lib.hid (And.intro hok (And.intro hon (And.intro hon1 hrok)))
  have HR1 := Lib.hid (And.intro hr1 hr1f)
  clear hroom hN hW hok hok2 hon hon1 hrok hr1 hr1f hrl
  simp only [recV] at *
  go_enter Tryz.func84, Tryz.ntmps84
  go_upto_region 1 with (fail)
  generalize w.alloc (.cells #[.int .i64 m.kind, .int .i64 m.queue, .int .i64 m.due, .int .i64 m.retry, .int .i64 m.ref, .int .i64 m.born, .string (S m.topic), .string (S m.tag), .string (S m.body), .slice A m.keys.length k] 56) = w1 at *
  generalize paint χ w.heap.size 0 = χ1 at *
  have b0 := HM1.out.1.cell 0
  have b1 := HM1.out.1.cell 1
  have b2 := HM1.out.1.cell 2
  have b3 := HM1.out.1.cell 3
  have b4 := HM1.out.1.cell 4
  have b5 := HM1.out.1.cell 5
  have b6 := HM1.out.1.cell 6
  have b7 := HM1.out.1.cell 7
  have b8 := HM1.out.1.cell 8
  have b9 := HM1.out.1.cell 9
  go_wp2_with (fail)
  refine HL1.out.mono ?_
  rintro e w2 ⟨rfl, hb⟩
  clear b0 b1 b2 b3 b4 b5 b6 b7 b8 b9
  have HS2 := Lib.hid ((HS1.out.mono (C' := fun x => x = c ∨ x = cr ∨ x = cd) fun k hk => hk.elim).trans (Stp.of_below hb))
  have HD2 := Lib.hid (HD1.out.below hb)
  have HTB2 := Lib.hid (HTB1.out.below hb)
  have HM2 := Lib.hid (HM1.out.stp (C := fun _ => False) (Stp.of_below hb) (fun h => h))
  obtain ⟨r, g, mp, iv, hT⟩ := HT1.out
  have HT2 := Lib.hid (hT.below hb)
  obtain ⟨pv, hRw⟩ := HT2.out.row
  have e0 := HT2.out.own.1.cell 0
  have e00 := hRw.own.1.cell 0
  have hDn := Down_any HD2.out
  have hRm := Room_any HD2.out
  clear hT hb hRw HL1 HS1 HD1 HTB1 HM1 HT1
  go_wp2_with (fail)
  refine hDn.mono ?_
  rintro e w' ⟨rfl, rfl⟩
  go_wp2_with (fail)
  refine hRm.mono ?_
  rintro e w3 ⟨rfl, hb⟩
  have HS3 := Lib.hid (HS2.out.trans (Stp.of_below hb))
  have HD3 := Lib.hid (HD2.out.below hb)
  have HTB3 := Lib.hid (HTB2.out.below hb)
  have HM3 := Lib.hid (HM2.out.stp (C := fun _ => False) (Stp.of_below hb) (fun h => h))
  have HT3 := Lib.hid (HT2.out.below hb)
  have hq1 := HQ.out.1
  have hq2 := HQ.out.2
  have hwr : wrap64 ((fl.length : Int) + ((putF m).length : Int)) = (fl.length : Int) + ((putF m).length : Int) := IntWalk.wrap64_in _ (by omega)
  have hnr : (fl.length : Int) + ((putF m).length : Int) ≤ D.room := by have := HD1R.out.1; omega
  have hnrb : decide (D.room < (fl.length : Int) + ((putF m).length : Int)) = false := decide_eq_false (by omega)
  have e0 := HT3.out.own.1.cell 0
  clear hb e00 hDn hRm HS2 HD2 HTB2 HM2 HT2 hq1 hq2
  cases hgp : T.gap m with
  | false =>
    obtain ⟨g1, g2, g3⟩ := HG0.out hgp
    have hfl0 : fl = [] := by rw [HFL.out, hgp, if_neg (by decide)]
    subst hfl0
    simp only [List.length_nil, Int.zero_add, Int.cast_ofNat_Int] at hwr hnr hnrb
    have hA := Append_in HT3.out HD3.out HOK.out.2.1 HTB3.out h1 h2 h3 r0 d0 (putF m) (by intro e; rw [e] at hpl; simp at hpl) (by have := HR1.out.1; rw [g1] at this; omega) (by have := HD1R.out.1; omega) (by omega) (by have := HD1R.out.2.1; omega) (by have := HD1R.out.2.2; omega)
    have HGP := Lib.hid (And.intro g1 (And.intro g2 hgp))
    clear g1 g2 g3 hgp HG HG0
    go_wp2_with (fail)
    refine hA.mono ?_
    rintro e w4 ⟨rfl, χa, sa, hta, hda⟩
    have HSa := Lib.hid (HS3.out.trans (sa.mono fun k hk => Or.inr hk))
    have HTa := Lib.hid hta
    have HDa := Lib.hid hda
    have hMa := HM3.out.stp sa (by omega)
    have b0 := hMa.1.cell 0
    have b1 := hMa.1.cell 1
    have b2 := hMa.1.cell 2
    have b3 := hMa.1.cell 3
    have b4 := hMa.1.cell 4
    have b5 := hMa.1.cell 5
    have b6 := hMa.1.cell 6
    have b7 := hMa.1.cell 7
    have b8 := hMa.1.cell 8
    have b9 := hMa.1.cell 9
    have hNo := HNT.out χa w4 _ ⟨r, g, mp, iv, HTa.out⟩ rfl
    rw [HGP.out.1] at hNo
    clear hA sa hta hda hMa
    go_wp2_with (fail)
    refine hNo.mono ?_
    rintro e wz ⟨rfl, χz, sz, htz⟩
    have HSz := Lib.hid (HSa.out.trans (sz.mono fun k hk => Or.inl hk))
    have HDz := Lib.hid (HDa.out.stp sz (by omega))
    have HTz := Lib.hid htz
    clear hNo sz htz b0 b1 b2 b3 b4 b5 b6 b7 b8 b9
    go_wp2_with (fail)
    go_ret2
    rw [HGP.out.1]
    refine ⟨rfl, χz, HSz.out, ?_, ?_⟩
    · rw [HAP.out, HGP.out.1]
      exact HTz.out
    · rw [HWR.out, HGP.out.1, HGP.out.2.1]
      exact HDz.out
  | true =>
    obtain ⟨g1, g2, g3⟩ := HG.out hgp
    have hfl1 : fl = fillF T.row.room := by rw [HFL.out, hgp, if_pos rfl]
    have hfll : fl.length = T.row.room := by rw [hfl1, hfl]
    have hfe : fl.isEmpty = false := by cases fl with | nil => simp at hfll; omega | cons _ _ => rfl
    have hsz := RowM.write_size HOK.out.2.1 HD3.out.ok fl
    have hcap := RowM.write_cap T.row D fl
    rw [← hfl1] at g1 g2
    have hA := Append_in HT3.out HD3.out HOK.out.2.1 HTB3.out h1 h2 h3 r0 d0 fl (by intro e; rw [e] at hfe; cases hfe) (by omega) (by have := HD1R.out.1; omega) (by omega) (by have := HD1R.out.2.1; omega) (by have := HD1R.out.2.2; omega)
    have hB := fun (χ : Col) (W : World) (hT : TapeAt χ c cr W t d { T with row := T.row.append fl } r g mp iv) (hd : IsDk χ cd W d (T.row.write D fl)) (ht : Tab χ W) => Append_in hT hd (by have := HOK.out.2.2.1; rw [g1, g2] at this; exact this) ht h1 h2 h3 r0 d0 (putF m) (by intro e; rw [e] at hpl; simp at hpl) (by have := HR1.out.1; rw [g1] at this; simp only; omega) (by have := HD1R.out.1; unfold Dsk.room at *; rw [hsz, hcap]; omega) (by have := HR1.out.2; rw [g1] at this; simp only; omega) (by have := HD1R.out.2.1; have := RowM.length_write T.row D fl; omega) (by have := HD1R.out.2.2; have := RowM.waits_write T.row D fl; omega)
    have HBB := Lib.hid hB
    have HGP := Lib.hid (And.intro g1 (And.intro g2 hgp))
    clear g1 g2 g3 hgp HG HG0 hfl1 hB hsz hcap hfll
    go_wp2_with (fail)
    refine hA.mono ?_
    rintro e w4 ⟨rfl, χb, sb, htb, hdb⟩
    have HSb := Lib.hid (HS3.out.trans (sb.mono fun k hk => Or.inr hk))
    have HTb := Lib.hid htb
    have HDb := Lib.hid hdb
    have HTBb := Lib.hid (HTB3.out.stp sb (by omega))
    have HMb := Lib.hid (HM3.out.stp sb (by omega))
    have hA := HBB.out χb w4 HTb.out HDb.out HTBb.out
    have e0 := HTb.out.own.1.cell 0
    clear sb htb hdb
    go_wp2_with (fail)
    clear e0
    refine hA.mono ?_
    rintro e w5 ⟨rfl, χa, sa, hta, hda⟩
    have HSa := Lib.hid (HSb.out.trans (sa.mono fun k hk => Or.inr hk))
    have HTa := Lib.hid hta
    have HDa := Lib.hid hda
    have hMa := HMb.out.stp sa (by omega)
    have b0 := hMa.1.cell 0
    have b1 := hMa.1.cell 1
    have b2 := hMa.1.cell 2
    have b3 := hMa.1.cell 3
    have b4 := hMa.1.cell 4
    have b5 := hMa.1.cell 5
    have b6 := hMa.1.cell 6
    have b7 := hMa.1.cell 7
    have b8 := hMa.1.cell 8
    have b9 := hMa.1.cell 9
    have hNo := HNT.out χa w5 _ ⟨r, g, mp, iv, HTa.out⟩ rfl
    rw [HGP.out.1] at hNo
    clear hA sa hta hda hMa
    go_wp2_with (fail)
    refine hNo.mono ?_
    rintro e wz ⟨rfl, χz, sz, htz⟩
    have HSz := Lib.hid (HSa.out.trans (sz.mono fun k hk => Or.inl hk))
    have HDz := Lib.hid (HDa.out.stp sz (by omega))
    have HTz := Lib.hid htz
    clear hNo sz htz b0 b1 b2 b3 b4 b5 b6 b7 b8 b9
    go_wp2_with (fail)
    go_ret2
    rw [HGP.out.1]
    refine ⟨rfl, χz, HSz.out, ?_, ?_⟩
    · rw [HAP.out, HGP.out.1]
      exact HTz.out
    · rw [HWR.out, HGP.out.1, HGP.out.2.1]
      exact HDz.out

end Go.Proofs.YtnacjogdndggeaaGreatDoor
end

section
namespace Go.Proofs.YtnacjogdndggeaaGreatDoor

namespace TapeM
/-- A tape synced. -/
def sync (T : TapeM) : TapeM := { T with row := T.row.synced' }
/-- A tape with a record more, synced or not. -/
def put (T : TapeM) (m : Rec) (b : Bool) : TapeM := if b then (T.append m).sync else T.append m
def putD (T : TapeM) (D : Dsk) (m : Rec) (b : Bool) : Dsk := if b then (T.append m).row.syncD (T.write D m) else T.write D m
/-- Tape and disk fit. -/
structure Good (T : TapeM) (D : Dsk) : Prop where
  ok : T.Ok
  on : T.row.On D
  lag : T.row.Lag D
  uni : D.Ok

theorem synced_fields (R : RowM) : R.synced'.head = R.head ∧ R.synced'.size = R.size ∧ R.synced'.begin = R.begin ∧ R.synced'.bytes = R.bytes ∧ R.synced'.many = R.many := by
  unfold RowM.synced'
  split <;> exact ⟨rfl, rfl, rfl, rfl, rfl⟩
theorem ok_sync {T : TapeM} (h : T.Ok) {D : Dsk} (ho : T.row.On D) : T.sync.Ok := by
  have hr := (RowM.On.sync ho).ok
  have e : T.sync.row = T.row ∨ T.sync.row = { T.row with synced := T.row.fin } := by
    unfold sync RowM.synced'
    split
    · exact .inl rfl
    · exact .inr rfl
  rcases e with e | e
  · have : T.sync = T := by
      obtain ⟨r, a, b⟩ := T
      simp only [sync] at e ⊢
      rw [e]
    rw [this]
    exact h
  · exact ⟨hr, by rw [e]; exact h.size, by rw [e]; exact h.head, by rw [e]; exact h.room, by
      intro p hp
      have := h.recs p hp
      rw [e]
      exact this, h.rise⟩

theorem write_size {T : TapeM} {D : Dsk} (h : Good T D) {m : Rec} (hf : T.row.fin + 2000 ≤ 90000000) : (T.write D m).size = D.size + T.cost m ∧ (T.write D m).cap = D.cap ∧ (T.write D m).Ok := by
  have ho1 := on1 T h.ok h.on m (by omega)
  unfold TapeM.write
  have e : (T.disk1 D m).size = D.size + (if T.gap m then T.row.room else 0) ∧ (T.disk1 D m).cap = D.cap ∧ (T.disk1 D m).Ok := by
    unfold disk1
    cases T.gap m
    · exact ⟨rfl, rfl, h.uni⟩
    · refine ⟨?_, RowM.write_cap _ _ _, RowM.write_ok h.on h.uni _⟩
      show (T.row.write D (fillF T.row.room)).size = _
      rw [RowM.write_size h.on h.uni, fillF_len h.ok.room]
      rfl
  refine ⟨?_, (RowM.write_cap _ _ _).trans e.2.1, RowM.write_ok ho1 e.2.2 _⟩
  rw [RowM.write_size ho1 e.2.2, e.1]
  unfold cost
  omega
theorem write_lens {T : TapeM} (D : Dsk) (m : Rec) : (T.write D m).files.length ≤ D.files.length + 2 ∧ (T.write D m).waits.length ≤ D.waits.length + 2 := by
  have e : (T.disk1 D m).files.length ≤ D.files.length + 1 ∧ (T.disk1 D m).waits.length ≤ D.waits.length + 1 := by
    unfold disk1
    split
    · exact ⟨RowM.length_write _ _ _, RowM.waits_write _ _ _⟩
    · exact ⟨by omega, by omega⟩
  unfold TapeM.write
  have h1 := RowM.length_write (T.row1 m) (T.disk1 D m) (putF m)
  have h2 := RowM.waits_write (T.row1 m) (T.disk1 D m) (putF m)
  omega
theorem sync_lens (l : List (List UInt8)) : ∀ D : Dsk, (D.sync l).files.length ≤ D.files.length ∧ (D.sync l).waits.length ≤ D.waits.length := by
  induction l with
  | nil => intro D; exact ⟨Nat.le_refl _, Nat.le_refl _⟩
  | cons n l ih =>
    intro D
    have h1 := ih (D.last1 n)
    have h2 := Dsk.length_last1 D n
    have h3 : (D.last1 n).waits.length ≤ D.waits.length := by
      unfold Dsk.last1
      split
      · exact Nat.le_refl _
      · exact List.length_filter_le _ _
    have e : D.sync (n :: l) = (D.last1 n).sync l := rfl
    rw [e]
    omega

theorem Good.append {T : TapeM} {D : Dsk} (h : Good T D) {m : Rec} (hr : rightF m = true) (h0 : m.kind ≠ 0) (hf : T.row.fin + 2000 ≤ 90000000) : Good (T.append m) (T.write D m) where
  ok := ok_append T h.ok hr h0 hf
  on := on_append T h.ok h.on hr h0 hf
  lag := by
    have hpl := putF_len m hr h0
    have ho1 := on1 T h.ok h.on m (by omega)
    have hl1 : (T.row1 m).Lag (T.disk1 D m) := by
      have h3 := h.ok.room
      have hl := fillF_len h3
      unfold row1 disk1
      cases T.gap m
      · exact h.lag
      · exact RowM.lag_append h.on h.lag (by intro e; rw [e] at hl; simp at hl; omega)
    exact RowM.lag_append ho1 hl1 (by intro e; rw [e] at hpl; simp at hpl)
  uni := (write_size h hf).2.2
theorem Good.sync {T : TapeM} {D : Dsk} (h : Good T D) : Good T.sync (T.row.syncD D) where
  ok := ok_sync h.ok h.on
  on := RowM.On.sync h.on
  lag := RowM.sync_lag h.on h.lag
  uni := h.uni.sync _
theorem Good.put {T : TapeM} {D : Dsk} (h : Good T D) {m : Rec} (hr : rightF m = true) (h0 : m.kind ≠ 0) (hf : T.row.fin + 2000 ≤ 90000000) (b : Bool) : Good (T.put m b) (T.putD D m b) := by
  cases b
  · exact h.append hr h0 hf
  · exact (h.append hr h0 hf).sync

theorem put_recs (T : TapeM) (m : Rec) (b : Bool) : (T.put m b).recs = T.recs ++ [((T.row1 m).fin, m)] := by
  cases b <;> rfl
theorem put_fin (T : TapeM) (h : T.Ok) (m : Rec) (b : Bool) : (T.put m b).row.fin = T.row.fin + T.cost m := by
  have e : (T.append m).row.fin = T.row.fin + T.cost m := by
    show ((T.row1 m).append (putF m)).fin = _
    rw [RowM.fin_append, row1_fin T h]
  cases b
  · exact e
  · show (T.append m).row.synced'.fin = _
    have := synced_fields (T.append m).row
    unfold RowM.fin at e ⊢
    rw [this.2.2.1, this.2.2.2.1]
    exact e
theorem putD_size {T : TapeM} {D : Dsk} (h : Good T D) {m : Rec} (hf : T.row.fin + 2000 ≤ 90000000) (b : Bool) : (T.putD D m b).size = D.size + T.cost m ∧ (T.putD D m b).cap = D.cap := by
  have h1 := write_size h (m := m) hf
  cases b
  · exact ⟨h1.1, h1.2.1⟩
  · exact ⟨(Dsk.size_sync _ _ h1.2.2).trans h1.1, (Dsk.cap_sync _ _).trans h1.2.1⟩
theorem putD_lens (T : TapeM) (D : Dsk) (m : Rec) (b : Bool) : (T.putD D m b).files.length ≤ D.files.length + 2 ∧ (T.putD D m b).waits.length ≤ D.waits.length + 2 := by
  have h1 := write_lens (T := T) D m
  cases b
  · exact h1
  · have := sync_lens (T.append m).row.lateNames (T.write D m)
    exact ⟨Nat.le_trans this.1 h1.1, Nat.le_trans this.2 h1.2⟩
/-- A record that is synced leaves no write behind; one that is not leaves one. -/
theorem putD_waits {T : TapeM} {D : Dsk} (h : Good T D) {m : Rec} (hr : rightF m = true) (h0 : m.kind ≠ 0) (hf : T.row.fin + 2000 ≤ 90000000) (b : Bool) : (T.putD D m b).waits.length = 0 ↔ b = true := by
  have hg := h.append hr h0 hf
  cases b
  · constructor
    · intro e
      have ho1 := on1 T h.ok h.on m (by omega)
      have hpl := putF_len m hr h0
      have := RowM.write_waits ho1 (s := putF m) (by intro e; rw [e] at hpl; simp at hpl)
      have e2 : (T.putD D m false).waits = ((T.row1 m).write (T.disk1 D m) (putF m)).waits := rfl
      rw [e2, this] at e
      simp at e
    · intro e
      cases e
  · constructor
    · intro _
      rfl
    · intro _
      show ((T.append m).row.syncD (T.write D m)).waits.length = 0
      rw [RowM.sync_waits hg.on hg.lag]
      rfl
theorem many_le {T : TapeM} (h : T.Ok) : T.row.many ≤ 1000000 := by
  rcases Nat.eq_zero_or_pos T.row.many with hm | hm
  · omega
  · have h1 := h.row.least (by omega)
    have h2 := h.row.fin
    have h3 := h.size
    unfold RowM.fin at h2
    rw [h3] at h1
    omega
end TapeM

end Go.Proofs.YtnacjogdndggeaaGreatDoor
end
