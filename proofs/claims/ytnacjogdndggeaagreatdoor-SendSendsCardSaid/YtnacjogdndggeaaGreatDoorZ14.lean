/- Layer 4 (disk): Write. Layer 4 (disk): is a write that waits one of a file? The first such one. Layer 4 (disk): the writes of one file struck out of those that wait. Layer 4 (disk): files that last. -/
import Derived.Test.YtnacjogdndggeaaGreatDoorZ13
import Derived.Maps.AppendAt
import Derived.LaidEqlPtr
section
namespace Go.Proofs.YtnacjogdndggeaaGreatDoor
open Go.Shelf Go.RowKit Go.Lib

theorem write_info : (Tryz.prog.info? 306).map (fun i => (i.zero, i.size, i.bytes)) = some (some (.agg #[.pointer none, .int .i64 0, .string ⟨#[]⟩]), 3, 32) := by kernel_rfl
namespace Dsk
theorem le_size {D : Dsk} {n : List UInt8} {f : FileC} (hu : D.Ok) (h : D.file n = some f) : f.now.length ≤ D.size := by
  have := asum_adel (fun f : FileC => f.now.length) n D.files hu
  unfold file at h
  rw [h] at this
  unfold size
  simp only [Option.map_some, Option.getD_some] at this
  omega
end Dsk

/-- What a write leaves in the files. -/
theorem write_files {D : Dsk} {n : List UInt8} {k : Nat} {s : List UInt8} {f : FileC} (hf : D.file n = some f) (hs : s ≠ []) : D.write n k s = { D with files := amod n ⟨f.image, lay f.now k s⟩ D.files, waits := D.waits ++ [⟨n, k, s⟩] } := by
  unfold Dsk.write
  rw [if_neg hs, hf]

set_option maxRecDepth 100000 in
set_option maxHeartbeats 4000000 in
theorem Write_good {χ : Col} {c d : Nat} {D : Dsk} {w : World} {n : List UInt8} {f : FileC} {k : Nat} {s : List UInt8} (h : IsDk χ c w d D) (hf : D.file n = some f) (hk : k ≤ f.now.length) (hs : s ≠ [])
    (hroom : ((k + s.length : Nat) : Int) - f.now.length ≤ D.room) (hW : D.waits.length ≤ 1000000000) :
    Calls Tryz.prog 167 #[.pointer (some ⟨d, 0, none⟩), .string (S n), .int .i64 k, .string (S s)] w fun e w' => e = .returned (.int .i64 0) ∧ ∃ χ', Stp (· = c) χ w χ' w' ∧ IsDk χ' c w' d (D.write n k s) := by
  have hlen := h.len hf
  have hsz := h.size
  have hle := Dsk.le_size h.ok hf
  have hnl : n.length ≤ maxLen := by unfold maxLen; omega
  have hsl : s.length ≤ 16777216 := by unfold Dsk.room at hroom; omega
  have hw1 : IntKind.i64.wrap ((k : Int) + s.length) = (k : Int) + s.length := IntWalk.i64_in _ (by omega)
  have hw2 : IntKind.i64.wrap ((k : Int) + s.length - f.now.length) = (k : Int) + s.length - f.now.length := IntWalk.i64_in _ (by omega)
  have hnot : decide (D.room < (k : Int) + s.length - f.now.length) = false := decide_eq_false (by omega)
  have hkk : decide (f.now.length < k) = false := decide_eq_false (by omega)
  have hns : s.isEmpty = false := by cases s with | nil => exact absurd rfl hs | cons _ _ => rfl
  have HB1 := Lib.hid ((Below.refl w.heap.size w).alloc (Nat.le_refl _) (.cells #[.string (S n)] 9))
  have h1 := h.below HB1.out
  have hb := bars_one h1 (b := w.heap.size) (s := n) (cell_one_new w _ _ 0 _ rfl) hnl
  rw [hf] at hb
  simp only [Option.isSome_some, if_true] at hb
  have h1' := h1
  obtain ⟨fm, blk, wv, g1⟩ := h1'
  have hlk := g1.lookup n hnl
  rw [hf] at hlk
  simp only at hlk
  have c2 := g1.own.1.cell 2
  have cf := (g1.file n f hf).1.cell 1
  have G1 := Lib.hid g1
  have H1 := Lib.hid h1
  have HF := Lib.hid hf
  have HS := Lib.hid hs
  have HR := Lib.hid hroom
  have HL := Lib.hid hlen
  have HZ := Lib.hid hsz
  have HE := Lib.hid hle
  have HW := Lib.hid hW
  clear g1 h1 h hf hs hroom hlen hsz hle hnl hW
  go_enter Tryz.func167, Tryz.ntmps167
  go_wp2_with (fail)
  refine hb.mono ?_
  rintro e w' ⟨rfl, rfl⟩
  clear hb
  go_upto_region 7 with (fail)
  generalize hw0 : w.alloc (.cells #[.string (S n)] 9) = w1 at *
  have HW0 := Lib.hid hw0
  clear hw0
  refine wp_region_held_drew (S := fun w' => w'.cell? ⟨blk n, 1, none⟩ = some (.string (S f.now)) ∧ IsDk χ c w' d D ∧ Below w1.heap.size w1 w') (by kernel_rfl) (And.intro cf (And.intro H1.out.drew (Below.refl _ _).drew)) (fun hHeld => ?_)
  refine wpAnyH_take (i := 0) (oi := ⟨some 38, _, _, _, _, _⟩) (v := ?_) rfl (by kernel_rfl) (by kernel_rfl) (by kernel_rfl) (fun _ _ _ h => h) (Or.inl ⟨by rfl, (by intro w hSw; (try dsimp only at hSw); go_simp; try with_reducible rfl)⟩) hHeld ?_
  try simp only [Act.put, List.setIfInBounds_toArray, List.set_cons_zero, List.set_cons_succ]
  refine wpAnyH_take (i := 1) (oi := ⟨some 39, _, _, _, _, _⟩) (v := ?_) rfl (by kernel_rfl) (by kernel_rfl) (by kernel_rfl) (fun _ _ _ h => h) (Or.inl ⟨by rfl, (by intro w hSw; (try dsimp only at hSw); go_simp; try with_reducible rfl)⟩) hHeld ?_
  try simp only [Act.put, List.setIfInBounds_toArray, List.set_cons_zero, List.set_cons_succ]
  refine wpAnyH_take (i := 2) (oi := ⟨some 40, _, _, _, _, _⟩) (v := ?_) rfl (by kernel_rfl) (by kernel_rfl) (by kernel_rfl) (fun _ _ _ h => h) (Or.inl ⟨by rfl, (by intro w hSw; (try dsimp only at hSw); go_simp; try with_reducible rfl)⟩) hHeld ?_
  try simp only [Act.put, List.setIfInBounds_toArray, List.set_cons_zero, List.set_cons_succ]
  refine wpAnyH_take (i := 3) (oi := ⟨some 41, _, _, _, _, _⟩) (v := ?_) rfl (by kernel_rfl) (by kernel_rfl) (by kernel_rfl) (fun _ _ _ h => h) (Or.inl ⟨by rfl, (by intro w hSw; (try dsimp only at hSw); go_simp; try with_reducible rfl)⟩) hHeld ?_
  try simp only [Act.put, List.setIfInBounds_toArray, List.set_cons_zero, List.set_cons_succ]
  refine wpAnyH_take (i := 4) (oi := ⟨some 42, _, _, _, _, _⟩) (v := ?_) rfl (by kernel_rfl) (by kernel_rfl) (by kernel_rfl) (fun _ _ _ h => h) (Or.inl ⟨by rfl, (by intro w hSw; (try dsimp only at hSw); go_simp; try with_reducible rfl)⟩) hHeld ?_
  try simp only [Act.put, List.setIfInBounds_toArray, List.set_cons_zero, List.set_cons_succ]
  refine wpAnyH_take (i := 5) (oi := ⟨some 43, _, _, _, _, _⟩) (v := ?_) rfl (by kernel_rfl) (by kernel_rfl) (by kernel_rfl) (fun _ _ _ h => h) (Or.inl ⟨by rfl, (by intro w hSw; (try dsimp only at hSw); go_simp; try with_reducible rfl)⟩) hHeld ?_
  try simp only [Act.put, List.setIfInBounds_toArray, List.set_cons_zero, List.set_cons_succ]
  refine wpAnyH_take (i := 6) (oi := ⟨some 44, _, _, _, _, _⟩) (v := ?_) rfl (by kernel_rfl) (by kernel_rfl) (by kernel_rfl) (fun _ _ _ h => h) (Or.inl ⟨by rfl, (by intro w hSw; (try dsimp only at hSw); go_simp; try with_reducible rfl)⟩) hHeld ?_
  try simp only [Act.put, List.setIfInBounds_toArray, List.set_cons_zero, List.set_cons_succ]
  refine wpAnyH_take (i := 7) (oi := ⟨some 45, _, _, _, _, _⟩) (v := ?_) rfl (by kernel_rfl) (by kernel_rfl) (by kernel_rfl) (fun _ _ _ h => h) (Or.inl ⟨by rfl, (by intro w hSw; (try dsimp only at hSw); go_simp; try with_reducible rfl)⟩) hHeld ?_
  try simp only [Act.put, List.setIfInBounds_toArray, List.set_cons_zero, List.set_cons_succ]
  refine wpAnyH_take (i := 8) (oi := ⟨some 46, _, _, _, _, _⟩) (v := ?_) rfl (by kernel_rfl) (by kernel_rfl) (by kernel_rfl) (fun _ _ _ h => h) (Or.inl ⟨by rfl, (by intro w hSw; (try dsimp only at hSw); go_simp; try with_reducible rfl)⟩) hHeld ?_
  try simp only [Act.put, List.setIfInBounds_toArray, List.set_cons_zero, List.set_cons_succ]
  refine wpAnyH_take (i := 9) (oi := ⟨some 47, _, _, _, _, _⟩) (v := ?_) rfl (by kernel_rfl) (by kernel_rfl) (by kernel_rfl) (fun _ _ _ h => h) (Or.inl ⟨by rfl, (by intro w hSw; (try dsimp only at hSw); go_simp; try with_reducible rfl)⟩) hHeld ?_
  try simp only [Act.put, List.setIfInBounds_toArray, List.set_cons_zero, List.set_cons_succ]
  refine wpAnyH_take (i := 10) (oi := ⟨some 48, _, _, _, _, _⟩) (v := ?_) rfl (by kernel_rfl) (by kernel_rfl) (by kernel_rfl) (fun _ _ _ h => h) (Or.inl ⟨by rfl, (by intro w hSw; (try dsimp only at hSw); go_simp; try with_reducible rfl)⟩) hHeld ?_
  try simp only [Act.put, List.setIfInBounds_toArray, List.set_cons_zero, List.set_cons_succ]
  refine wpAnyH_ready (rs := [11]) (by kernel_rfl) (by simp) ?_
  refine AllReadyH.cons (o := ⟨some 49, _, _, _, _, _⟩) rfl (fun K hK => ?_) AllReadyH.nil
  go_simp
  refine (Room_any hHeld.2.1).mono ?_
  rintro e w2 ⟨rfl, hb⟩
  have hS2 := And.intro ((hb.cell (p := ⟨blk n, 1, none⟩) (cell_lt hHeld.1)).trans hHeld.1) (And.intro (hHeld.2.1.below hb) (hHeld.2.2.trans (hb.mono hHeld.2.2.size)))
  refine hK.out _ _ hS2 (fun hHeld => ?_)
  clear hK K
  try simp only [Act.put, List.setIfInBounds_toArray, List.set_cons_zero, List.set_cons_succ]
  refine wpAnyH_take (i := 12) (oi := ⟨some 50, _, _, _, _, _⟩) (v := ?_) rfl (by kernel_rfl) (by kernel_rfl) (by kernel_rfl) (fun _ _ _ h => h) (Or.inl ⟨by rfl, (by intro w hSw; (try dsimp only at hSw); go_simp; try with_reducible rfl)⟩) hHeld ?_
  try simp only [Act.put, List.setIfInBounds_toArray, List.set_cons_zero, List.set_cons_succ]
  refine wpAnyH_take (i := 13) (oi := ⟨some 51, _, _, _, _, _⟩) (v := ?_) rfl (by kernel_rfl) (by kernel_rfl) (by kernel_rfl) (fun _ _ _ h => h) (Or.inl ⟨by rfl, (by intro w hSw; (try dsimp only at hSw); go_simp; try with_reducible rfl)⟩) hHeld ?_
  try simp only [Act.put, List.setIfInBounds_toArray, List.set_cons_zero, List.set_cons_succ]
  refine wpAnyH_take (i := 14) (oi := ⟨some 52, _, _, _, _, _⟩) (v := undef) rfl (by kernel_rfl) (by kernel_rfl) (by kernel_rfl) (fun _ _ _ h => h) (Or.inr ⟨by rfl, rfl⟩) hHeld ?_
  try simp only [Act.put, List.setIfInBounds_toArray, List.set_cons_zero, List.set_cons_succ]
  refine wpAnyH_take (i := 15) (oi := ⟨some 53, _, _, _, _, _⟩) (v := undef) rfl (by kernel_rfl) (by kernel_rfl) (by kernel_rfl) (fun _ _ _ h => h) (Or.inr ⟨by rfl, rfl⟩) hHeld ?_
  try simp only [Act.put, List.setIfInBounds_toArray, List.set_cons_zero, List.set_cons_succ]
  refine wpAnyH_take (i := 16) (oi := ⟨some 54, _, _, _, _, _⟩) (v := undef) rfl (by kernel_rfl) (by kernel_rfl) (by kernel_rfl) (fun _ _ _ h => h) (Or.inr ⟨by rfl, rfl⟩) hHeld ?_
  try simp only [Act.put, List.setIfInBounds_toArray, List.set_cons_zero, List.set_cons_succ]
  refine wpAnyH_take (i := 17) (oi := ⟨some 55, _, _, _, _, _⟩) (v := undef) rfl (by kernel_rfl) (by kernel_rfl) (by kernel_rfl) (fun _ _ _ h => h) (Or.inr ⟨by rfl, rfl⟩) hHeld ?_
  try simp only [Act.put, List.setIfInBounds_toArray, List.set_cons_zero, List.set_cons_succ]
  refine wpAnyH_take (i := 18) (oi := ⟨some 56, _, _, _, _, _⟩) (v := undef) rfl (by kernel_rfl) (by kernel_rfl) (by kernel_rfl) (fun _ _ _ h => h) (Or.inr ⟨by rfl, rfl⟩) hHeld ?_
  try simp only [Act.put, List.setIfInBounds_toArray, List.set_cons_zero, List.set_cons_succ]
  refine wpAnyH_take (i := 19) (oi := ⟨some 57, _, _, _, _, _⟩) (v := undef) rfl (by kernel_rfl) (by kernel_rfl) (by kernel_rfl) (fun _ _ _ h => h) (Or.inr ⟨by rfl, rfl⟩) hHeld ?_
  try simp only [Act.put, List.setIfInBounds_toArray, List.set_cons_zero, List.set_cons_succ]
  refine wpAnyH_take (i := 20) (oi := ⟨some 58, _, _, _, _, _⟩) (v := undef) rfl (by kernel_rfl) (by kernel_rfl) (by kernel_rfl) (fun _ _ _ h => h) (Or.inr ⟨by rfl, rfl⟩) hHeld ?_
  try simp only [Act.put, List.setIfInBounds_toArray, List.set_cons_zero, List.set_cons_succ]
  refine wpAnyH_take (i := 21) (oi := ⟨some 59, _, _, _, _, _⟩) (v := undef) rfl (by kernel_rfl) (by kernel_rfl) (by kernel_rfl) (fun _ _ _ h => h) (Or.inr ⟨by rfl, rfl⟩) hHeld ?_
  try simp only [Act.put, List.setIfInBounds_toArray, List.set_cons_zero, List.set_cons_succ]
  refine wpAnyH_take (i := 22) (oi := ⟨some 60, _, _, _, _, _⟩) (v := undef) rfl (by kernel_rfl) (by kernel_rfl) (by kernel_rfl) (fun _ _ _ h => h) (Or.inr ⟨by rfl, rfl⟩) hHeld ?_
  try simp only [Act.put, List.setIfInBounds_toArray, List.set_cons_zero, List.set_cons_succ]
  refine wpAnyH_take (i := 23) (oi := ⟨some 61, _, _, _, _, _⟩) (v := undef) rfl (by kernel_rfl) (by kernel_rfl) (by kernel_rfl) (fun _ _ _ h => h) (Or.inr ⟨by rfl, rfl⟩) hHeld ?_
  try simp only [Act.put, List.setIfInBounds_toArray, List.set_cons_zero, List.set_cons_succ]
  refine wpAnyH_take (i := 24) (oi := ⟨some 62, _, _, _, _, _⟩) (v := ?_) rfl (by kernel_rfl) (by kernel_rfl) (by kernel_rfl) (fun _ _ _ h => h) (Or.inl ⟨by rfl, (by intro w hSw; (try dsimp only at hSw); go_simp; try with_reducible rfl)⟩) hHeld ?_
  try simp only [Act.put, List.setIfInBounds_toArray, List.set_cons_zero, List.set_cons_succ]
  refine wpAnyH_take (i := 25) (oi := ⟨some 37, _, _, _, _, _⟩) (v := ?_) rfl (by kernel_rfl) (by kernel_rfl) (by kernel_rfl) (fun _ _ _ h => h) (Or.inl ⟨by rfl, (by intro w hSw; (try dsimp only at hSw); go_simp; try with_reducible rfl)⟩) hHeld ?_
  try simp only [Act.put, List.setIfInBounds_toArray, List.set_cons_zero, List.set_cons_succ]
  refine wpAnyH_done (by kernel_rfl) ?_ _
  obtain ⟨q1, q2, q3⟩ := hHeld
  have G2 := Lib.hid (G1.out.stp (C := fun _ => False) (Stp.of_below q3) (fun h => h))
  have HB2 := Lib.hid q3
  have hd := done_any q2
  clear q2 q3 hS2 hb
  go_wp2_with (fail)
  refine hd.mono ?_
  rintro e w' ⟨rfl, rfl⟩
  clear hd
  have hlay := laid_any f.now s k w2 (by omega) HL.out.2.2 hsl
  go_wp2_with (fail)
  refine hlay.mono ?_
  rintro e w3 ⟨rfl, hb3⟩
  clear hlay
  have G3 := G2.out.stp (C := fun _ => False) (Stp.of_below hb3) (fun h => h)
  have HB3 := Lib.hid (HB2.out.trans (hb3.mono HB2.out.size))
  have hlay2 := lay_length s (b := f.now) (k := k) (by omega)
  have hx : (lay f.now k s).length ≤ 16777216 := by
    have := HZ.out; have := HE.out; have := HR.out
    unfold Dsk.room at this
    omega
  have hsz4 : ({ D with files := amod n ⟨f.image, lay f.now k s⟩ D.files } : Dsk).size ≤ D.cap := by
    have h1 := Dsk.size_write G1.out.uni (s := s) HF.out (k := k) (by omega)
    rw [write_files HF.out HS.out] at h1
    have h2 : ({ D with files := amod n ⟨f.image, lay f.now k s⟩ D.files } : Dsk).size + f.now.length = D.size + max f.now.length (k + s.length) := h1
    have := HZ.out; have := HE.out; have := HR.out
    unfold Dsk.room at this
    omega
  have G4 := Lib.hid (G3.setNow HF.out (lay f.now k s) hx hsz4)
  have cf3 := (G3.file n f HF.out).1.cell 1
  have ff3 := (G3.file n f HF.out).1.frozen 1
  have hcb := Lib.hid (G3.file n f HF.out).2
  clear G3 G2 hb3 hlay2 hx hsz4 q1
  generalize hxe : lay f.now k s = x at *
  have HX := Lib.hid hxe
  clear hxe
  go_upto_region 14 with (fail)
  have HS4 : Hid (Stp (· = c) χ w χ (w3.setCell ⟨blk n, 1, none⟩ (.string (S x)))) := Lib.hid (by
    have s1 : Stp (· = c) χ w χ w3 := Stp.of_below (HB1.out.trans (HB3.out.mono HB1.out.size))
    exact s1.set (.inl hcb.out) _)
  generalize w3.setCell ⟨blk n, 1, none⟩ (.string (S x)) = w4 at *
  clear cf3 ff3 hcb HB3 HB2 hsl hw1 hw2 hnot hkk hns H1 HB1 HW0 hlk c2 cf
  obtain ⟨i0, hi, hz0, hz1, hz2⟩ := info_parts write_info
  have c3 := G4.out.own.1.cell 3
  have hown := G4.out.row
  have hmx : D.waits.length + 1 ≤ maxLen := by have := HW.out; unfold maxLen; omega
  have hby : (D.waits.length + 1) * 32 ≤ 140737488355328 := by have := HW.out; omega
  have hnews := World.news_of_block (cs := #[.pointer (some ⟨blk n, 0, none⟩), .int .i64 (k : Int), .string (S s)]) (t := 306) (fr := (0, 0)) (heap_alloc_new w4 (.cells #[.pointer (some ⟨blk n, 0, none⟩), .int .i64 (k : Int), .string (S s)] 306))
  go_wp2_with (first | (at_builtin; refine wpList_append_own_at _ rfl _ _ 73 rfl 0 306 i0 _ 3 32 Tryz.underlying73 hi hz0 hz1 hz2 rfl (by decide) wv D.waits.length _ rfl (hown.alloc _) ⟨w4.heap.size, 0, none⟩ 1 1 _ rfl rfl hnews (by simp [Value.oneCell']) hmx hby (Nat.zero_le _) ?_; intro v5 w5 hown5 hgrow5 hnil5 hat5; obtain ⟨g5, cap5, rfl⟩ := row_shape hown5; have hd5 := (G4.out.own.1.alloc _).grown hgrow5 G4.out.d_row; have c5 := hd5.cell 3; have f5 := hd5.frozen 3) | fail)
  go_ret
  have hgr := World.grownBy.trans (World.grownBy_alloc w4 (.cells #[.pointer (some ⟨blk n, 0, none⟩), .int .i64 (k : Int), .string (S s)] 306) wv.ownBlock) hgrow5
  refine ⟨rfl, paint χ w4.heap.size c, ?_, fm, blk, .slice (some ⟨g5, 0, none⟩) (D.waits.length + 1) cap5, ?_⟩
  · have s1 : Stp (· = c) χ w χ w5 := HS4.out.trans (Stp.of_grown hgr fun b hb => .inl (G4.out.crow b hb))
    exact (s1.set (.inl G4.out.own.2) _).paint HS4.out.size c
  · rw [write_files HF.out HS.out, HX.out]
    have hfl : ({ D with files := amod n ⟨f.image, x⟩ D.files } : Dsk).file n = some ⟨f.image, x⟩ := by
      show aget (amod n _ D.files) n = _
      rw [aget_amod, if_pos rfl]
      have := HF.out
      unfold Dsk.file at this
      rw [this]
      rfl
    refine G4.out.setWaits (χ' := paint χ w4.heap.size c) _ (D.waits ++ [⟨n, k, s⟩]) (fun b hb => paint_old hb) hgr ?_ ?_ ?_
    · rw [List.length_append, List.flatMap_append]
      exact hown5
    · intro g hg
      rcases hat5 with h1 | h1
      · rw [h1] at hg
        rw [paint_old (G4.out.row.lt g hg).2]
        exact G4.out.crow g hg
      · rw [h1] at hg
        injection hg with hg
        exact paint_new (by rw [← hg]; simp)
    · intro q hq
      rcases List.mem_append.1 hq with hq | hq
      · exact G4.out.there q hq
      · obtain rfl : q = ⟨n, k, s⟩ := by simpa using hq
        rw [hfl]
        rfl

end Go.Proofs.YtnacjogdndggeaaGreatDoor
end

section
namespace Go.Proofs.YtnacjogdndggeaaGreatDoor
open Go.Shelf Go.RowKit Go.Lib

/-- Blocks of cells lie where files are said to lie. -/
def Filed (W : World) (blk : List UInt8 → Nat) (n : List UInt8) : Prop := ∃ cs t, W.heap[blk n]? = some (.cells cs t (0, 0))
theorem Filed.below {W W' : World} {blk : List UInt8 → Nat} {n : List UInt8} (h : Filed W blk n) (hb : Below W.heap.size W W') : Filed W' blk n := by
  obtain ⟨cs, t, h⟩ := h
  exact ⟨cs, t, by rw [hb.block _ (Array.getElem?_eq_some_iff.1 h).1]; exact h⟩
theorem DkAt.filed {χ : Col} {c d fm : Nat} {D : Dsk} {blk : List UInt8 → Nat} {wv : Value} {w : World} (h : DkAt χ c w d D fm blk wv) {n : List UInt8} (hn : (D.file n).isSome = true) : Filed w blk n := by
  obtain ⟨f, hf⟩ := Option.isSome_iff_exists.1 hn
  exact ⟨_, _, (h.file n f hf).1⟩

theorem file_info : ∃ j, Tryz.prog.info? 282 = some j ∧ j.size ≠ 0 := by
  have : (Tryz.prog.info? 282).map (·.size) = some 2 := by kernel_rfl
  cases h : Tryz.prog.info? 282 with
  | none => rw [h] at this; cases this
  | some j =>
    rw [h] at this
    injection this with this
    exact ⟨j, rfl, fun e => by have h2 : j.size = 2 := this; omega⟩

set_option maxRecDepth 100000 in
/-- Two files' pointers compared. -/
theorem eql_files {W : World} {blk : List UInt8 → Nat} {a b : List UInt8} (ha : Filed W blk a) (hb : Filed W blk b) :
    (binOp .eql 262 (.pointer (some ⟨blk a, 0, none⟩)) (.pointer (some ⟨blk b, 0, none⟩))).run Tryz.prog W = .ok (.bool (decide (blk a = blk b))) W := by
  obtain ⟨j, hj, hs⟩ := file_info
  by_cases e : blk a = blk b
  · rw [e]
    have := run_eql_ptr_same (P := Tryz.prog) W (tp := 262) (te := 282) ⟨blk b, 0, none⟩ Tryz.underlying262 hj
    rw [this]
    simp
  · obtain ⟨ca, ta, h1⟩ := ha
    obtain ⟨cb, tb, h2⟩ := hb
    have := run_eql_ptr_other (P := Tryz.prog) W (tp := 262) (te := 282) (a := ⟨blk a, 0, none⟩) (b := ⟨blk b, 0, none⟩) Tryz.underlying262 hj hs (fun h => e (by injection h)) h1 h2
    rw [this]
    simp [e]

set_option maxRecDepth 100000 in
set_option maxHeartbeats 1000000 in
theorem CL_any {W : World} {blk : List UInt8 → Nat} {n : List UInt8} {fb : Nat} (q : WaitC) (hc : W.cell? ⟨fb, 0, none⟩ = some (.pointer (some ⟨blk n, 0, none⟩))) (hn : Filed W blk n) (hq : Filed W blk q.name) :
    Calls Tryz.prog 261 #[.agg #[.pointer (some ⟨blk q.name, 0, none⟩), .int .i64 q.pos, .string (S q.s)], .pointer (some ⟨fb, 0, none⟩)] W fun e w' => e = .returned (.bool (decide (blk q.name = blk n))) ∧ Below W.heap.size W w' := by
  have hB := Lib.hid ((Below.refl W.heap.size W).alloc (Nat.le_refl _) (.cells #[.pointer (some ⟨blk q.name, 0, none⟩), .int .i64 (q.pos : Int), .string (S q.s)] 306))
  have he := eql_files (hq.below hB.out) (hn.below hB.out)
  have hcl := cell_lt hc
  have hc2 := (hB.out.cell (p := ⟨fb, 0, none⟩) hcl).trans hc
  clear hn hq
  go_enter Tryz.func261, Tryz.ntmps261
  go_wp2
  go_ret
  exact ⟨rfl, hB.out⟩

set_option maxRecDepth 100000 in
theorem cell3 {w : World} {g : Nat} {blk : List UInt8 → Nat} {L : List WaitC} (hr : w.rangeAt g 0 (L.flatMap (waitV blk))) {j : Nat} (hj : j < L.length) :
    w.cell? ⟨g, j * 3, none⟩ = some (.pointer (some ⟨blk L[j].name, 0, none⟩)) ∧ w.cell? ⟨g, j * 3 + 1, none⟩ = some (.int .i64 L[j].pos) ∧ w.cell? ⟨g, j * 3 + 2, none⟩ = some (.string (S L[j].s)) := by
  have key : ∀ (L : List WaitC) (j : Nat) (hj : j < L.length) (r : Nat), r < 3 → (L.flatMap (waitV blk))[j * 3 + r]? = (waitV blk L[j])[r]? := by
    intro L
    induction L with
    | nil => intro j hj; simp at hj
    | cons x L ih =>
      intro j hj r hr
      rw [List.flatMap_cons]
      have h3 : (waitV blk x).length = 3 := rfl
      cases j with
      | zero =>
        rw [List.getElem?_append_left (by omega)]
        simp
      | succ j =>
        rw [List.getElem?_append_right (by omega), show (j + 1) * 3 + r - (waitV blk x).length = j * 3 + r by omega]
        exact ih j (by simpa using hj) r hr
  have h0 := hr (j * 3) _ (by have := key L j hj 0 (by omega); simpa [waitV] using this)
  have h1 := hr (j * 3 + 1) _ (by have := key L j hj 1 (by omega); simpa [waitV] using this)
  have h2 := hr (j * 3 + 2) _ (by have := key L j hj 2 (by omega); simpa [waitV] using this)
  rw [Nat.zero_add] at h0 h1 h2
  exact ⟨h0, h1, h2⟩

/-- The first place of one that is so; -1: none. -/
def firstI (p : WaitC → Bool) (L : List WaitC) : Int := match L.findIdx? p with | some i => (i : Int) | none => -1

theorem firstI_hit {p : WaitC → Bool} {L : List WaitC} {k : Nat} (hk : k < L.length) (h : ∀ j, j < k → ∀ hj : j < L.length, p L[j] = false) (hp : p L[k] = true) : firstI p L = k := by
  have : L.findIdx? p = some k := by
    rw [List.findIdx?_eq_some_iff_getElem]
    exact ⟨hk, hp, fun j hj => by simp [h j hj (by omega)]⟩
  unfold firstI
  rw [this]
theorem firstI_miss {p : WaitC → Bool} {L : List WaitC} (h : ∀ j, j < L.length → ∀ hj : j < L.length, p L[j] = false) : firstI p L = -1 := by
  have : L.findIdx? p = none := by
    rw [List.findIdx?_eq_none_iff]
    intro x hx
    obtain ⟨j, hj, rfl⟩ := List.getElem_of_mem hx
    exact h j hj hj
  unfold firstI
  rw [this]

set_option maxRecDepth 100000 in
set_option maxHeartbeats 2000000 in
theorem IndexFunc_any {w : World} {blk : List UInt8 → Nat} {n : List UInt8} {fb g cap : Nat} {L : List WaitC} (hc : w.cell? ⟨fb, 0, none⟩ = some (.pointer (some ⟨blk n, 0, none⟩))) (hn : Filed w blk n) (hL : ∀ q ∈ L, Filed w blk q.name)
    (hr : w.rangeAt g 0 (L.flatMap (waitV blk))) (hl : L.length ≤ 1000000000) :
    Calls Tryz.prog 260 #[.slice (some ⟨g, 0, none⟩) L.length cap, .func (.func 261) #[] #[.pointer (some ⟨fb, 0, none⟩)]] w fun e w' => e = .returned (.int .i64 (firstI (fun q => decide (blk q.name = blk n)) L)) ∧ Below w.heap.size w w' := by
  have HB := Lib.hid (Below.refl w.heap.size w)
  have HN := Lib.hid hn
  have HL := Lib.hid hL
  have HR := Lib.hid hr
  have HC := Lib.hid hc
  clear hn hL hr hc
  go_enter Tryz.func260, Tryz.ntmps260
  go_wp2
  go_loopw [8] (fun vi wr => ∃ k : Nat, k ≤ L.length ∧ vi = .int .i64 k ∧ Hid (∀ j, j < k → ∀ hj : j < L.length, decide (blk L[j].name = blk n) = false) ∧ Hid (Below w.heap.size w wr)) (fun vi _ => L.length - (RowKit.intOf vi).toNat)
  case atStart => exact ⟨0, Nat.zero_le _, rfl, Lib.hid (fun j hj => absurd hj (by omega)), HB⟩
  case round =>
    obtain ⟨k, hk, rfl, HF, HB⟩ := hrel
    by_cases hlt : k < L.length
    · have hcl := cell_lt HC.out
      have h1 : wr.cell? ⟨fb, 0, none⟩ = _ := (HB.out.cell (p := ⟨fb, 0, none⟩) hcl).trans HC.out
      have hn1 : Filed wr blk n := HN.out.below HB.out
      have hq1 : Filed wr blk L[k].name := (HL.out _ (List.getElem_mem hlt)).below HB.out
      obtain ⟨d0, d1, d2⟩ := cell3 HR.out hlt
      have c0 := (HB.out.cell (p := ⟨g, k * 3, none⟩) (cell_lt d0)).trans d0
      have c1 := (HB.out.cell (p := ⟨g, k * 3 + 1, none⟩) (cell_lt d1)).trans d1
      have c2 := (HB.out.cell (p := ⟨g, k * 3 + 2, none⟩) (cell_lt d2)).trans d2
      have hcl := CL_any L[k] h1 hn1 hq1
      generalize hb : decide (blk L[k].name = blk n) = b at *
      have HBB := Lib.hid hb
      clear hb d0 d1 d2 h1 hn1 hq1
      go_wp2_with (fail)
      refine hcl.mono ?_
      rintro e w1 ⟨rfl, hb1⟩
      have HB1 := Lib.hid (HB.out.trans (hb1.mono HB.out.size))
      clear hcl c0 c1 c2 hb1
      cases b
      · go_wp2
        go_roundw
        case rel => exact ⟨k + 1, hlt, by go_num, Lib.hid (fun j hj hj2 => by rcases Nat.lt_succ_iff_lt_or_eq.1 hj with h | rfl; exact HF.out j h hj2; exact HBB.out), HB1⟩
        case measure => simp [RowKit.intOf]; omega
      · go_wp2
        go_ret
        exact ⟨ret_int (firstI_hit hlt HF.out HBB.out).symm, HB1.out⟩
    · have hkn : k = L.length := by omega
      subst hkn
      go_wp2
      go_ret
      exact ⟨ret_int (firstI_miss HF.out).symm, HB.out⟩

end Go.Proofs.YtnacjogdndggeaaGreatDoor
end

section
namespace Go.Proofs.YtnacjogdndggeaaGreatDoor
open Go.Shelf Go.RowKit Go.Lib

/-- Block g is a row of cap writes. -/
def WRow (w : World) (g cap : Nat) : Prop := ∃ cur, w.heap[g]? = some (.cells cur 306 (0, 0)) ∧ cur.size = cap * 3
theorem WRow.grown {w w' : World} {g cap : Nat} {row : Option Nat} (h : WRow w g cap) (hg : w.grownBy w' row) (hne : row ≠ some g) : WRow w' g cap := by
  obtain ⟨cur, h1, h2⟩ := h
  exact ⟨cur, by rw [hg.block _ (Array.getElem?_eq_some_iff.1 h1).1 (fun e => hne e.symm)]; exact h1, h2⟩
theorem WRow.below {w w' : World} {g cap : Nat} (h : WRow w g cap) (hb : Below w.heap.size w w') : WRow w' g cap := by
  obtain ⟨cur, h1, h2⟩ := h
  exact ⟨cur, by rw [hb.block _ (Array.getElem?_eq_some_iff.1 h1).1]; exact h1, h2⟩
theorem WRow.set {w : World} {g cap : Nat} (h : WRow w g cap) (o : Nat) (v : Value) : WRow (w.setCell ⟨g, o, none⟩ v) g cap := by
  obtain ⟨cur, h1, h2⟩ := h
  exact ⟨_, heap_setCell_same w g o cur _ v h1, by simpa using h2⟩
theorem WRow.sets {g cap : Nat} : ∀ (vs : List Value) (o : Nat) (w : World), WRow w g cap → WRow (w.setCells g o vs) g cap
  | [], _, _, h => h
  | v :: r, o, _, h => WRow.sets r (o + 1) _ (h.set o v)
theorem WRow.there {w : World} {g cap : Nat} (h : WRow w g cap) : w.there g 0 (cap * 3) := by
  obtain ⟨cur, h1, h2⟩ := h
  intro j hj
  rw [Nat.zero_add]
  refine ⟨?_, Lib.frozen_of_heap h1 j⟩
  unfold World.cell?
  rw [h1]
  show (cur[j]?).isSome = true
  rw [Array.getElem?_eq_getElem (by omega)]
  rfl
theorem flat3 (blk : List UInt8 → Nat) (K : List WaitC) : (K.flatMap (waitV blk)).length = K.length * 3 := by
  induction K with
  | nil => rfl
  | cons x K ih =>
    rw [List.flatMap_cons, List.length_append, List.length_cons, ih]
    have h3 : (waitV blk x).length = 3 := rfl
    omega

theorem WRow.own {w : World} {g cap : Nat} {blk : List UInt8 → Nat} {K : List WaitC} (h : WRow w g cap) (hr : w.rangeAt g 0 (K.flatMap (waitV blk))) (hk : K.length ≤ cap) (hm : cap ≤ maxLen) : w.ownsRow 0 306 3 (.slice (some ⟨g, 0, none⟩) K.length cap) K.length (K.flatMap (waitV blk)) := by
  obtain ⟨cur, h1, h2⟩ := h
  have hl := flat3 blk K
  refine ⟨hl, .inr ⟨g, cap, cur, rfl, Nat.zero_le _, h1, hk, hm, h2, ?_⟩⟩
  apply List.ext_getElem?
  intro j
  rw [List.getElem?_take]
  split
  · rename_i hj
    have hlt : j < (K.flatMap (waitV blk)).length := by omega
    rw [List.getElem?_eq_getElem hlt]
    have := hr j _ (List.getElem?_eq_getElem hlt)
    rw [Nat.zero_add] at this
    unfold World.cell? at this
    rw [h1] at this
    simpa using this
  · rename_i hj
    rw [List.getElem?_eq_none (by omega)]

theorem Filed.grown {W W' : World} {blk : List UInt8 → Nat} {n : List UInt8} {row : Option Nat} (h : Filed W blk n) (hg : W.grownBy W' row) (hne : row ≠ some (blk n)) : Filed W' blk n := by
  obtain ⟨cs, t, h⟩ := h
  exact ⟨cs, t, by rw [hg.block _ (Array.getElem?_eq_some_iff.1 h).1 (fun e => hne e.symm)]; exact h⟩
theorem range_below {w w' : World} {g o : Nat} {vs : List Value} (h : w.rangeAt g o vs) (hb : Below w.heap.size w w') : w'.rangeAt g o vs := fun j v hv => by
  have := h j v hv
  rw [← this]
  exact hb.cell (p := ⟨g, o + j, none⟩) (cell_lt this)

theorem grown_sets {w0 : World} {g : Nat} : ∀ (vs : List Value) (o : Nat) (w : World), w0.grownBy w (some g) → w0.grownBy (w.setCells g o vs) (some g)
  | [], _, _, h => h
  | v :: r, o, w, h => grown_sets r (o + 1) _ (World.grownBy.trans h (grown_set w g o v))
theorem range_snoc {w : World} {g : Nat} {blk : List UInt8 → Nat} {K : List WaitC} (x : WaitC) (hr : w.rangeAt g 0 (K.flatMap (waitV blk))) (ht : w.there g (K.length * 3) 3) : (w.setCells g (K.length * 3) (waitV blk x)).rangeAt g 0 ((K ++ [x]).flatMap (waitV blk)) := by
  intro j v hv
  rw [Nat.zero_add]
  rw [List.flatMap_append] at hv
  have h3 : ([x].flatMap (waitV blk)) = waitV blk x := by simp
  rw [h3] at hv
  by_cases hj : j < K.length * 3
  · rw [World.cell?_setCells_out g _ _ _ _ (fun _ _ => .inl hj)]
    rw [List.getElem?_append_left (by rw [flat3]; exact hj)] at hv
    have := hr j v hv
    rwa [Nat.zero_add] at this
  · rw [List.getElem?_append_right (by rw [flat3]; omega), flat3] at hv
    have := World.rangeAt_setCells_same w g (K.length * 3) (waitV blk x) ht (j - K.length * 3) v hv
    rwa [show K.length * 3 + (j - K.length * 3) = j by omega] at this

/-- What is kept of the first k. -/
def kept (p : WaitC → Bool) (L : List WaitC) (k : Nat) : List WaitC := (L.take k).filter fun q => !p q
theorem kept_succ {p : WaitC → Bool} {L : List WaitC} {k : Nat} (hk : k < L.length) : kept p L (k + 1) = if p L[k] = true then kept p L k else kept p L k ++ [L[k]] := by
  unfold kept
  rw [List.take_succ_eq_append_getElem hk, List.filter_append]
  cases h : p L[k] <;> simp [h]
theorem kept_first {p : WaitC → Bool} {L : List WaitC} {i : Nat} (hi : i < L.length) (h2 : p L[i] = true) (h3 : ∀ j (hj : j < i), ¬ p (L[j]'(Nat.lt_trans hj hi)) = true) : kept p L (i + 1) = L.take i := by
  rw [kept_succ hi, if_pos h2]
  unfold kept
  rw [List.filter_eq_self]
  intro q hq
  obtain ⟨j, hj, rfl⟩ := List.getElem_of_mem hq
  have hj2 : j < i := by
    rw [List.length_take] at hj
    omega
  have := h3 j hj2
  rw [List.getElem_take]
  simpa using this
theorem cell3o {w : World} {g o : Nat} {blk : List UInt8 → Nat} {x : WaitC} {r : List WaitC} (hr : w.rangeAt g o ((x :: r).flatMap (waitV blk))) :
    w.cell? ⟨g, o, none⟩ = some (.pointer (some ⟨blk x.name, 0, none⟩)) ∧ w.cell? ⟨g, o + 1, none⟩ = some (.int .i64 x.pos) ∧ w.cell? ⟨g, o + 2, none⟩ = some (.string (S x.s)) := by
  refine ⟨?_, ?_, ?_⟩
  · have := hr 0 _ (show ((x :: r).flatMap (waitV blk))[0]? = some (.pointer (some ⟨blk x.name, 0, none⟩)) from rfl)
    exact this
  · exact hr 1 _ (show ((x :: r).flatMap (waitV blk))[1]? = some (.int .i64 x.pos) from rfl)
  · exact hr 2 _ (show ((x :: r).flatMap (waitV blk))[2]? = some (.string (S x.s)) from rfl)
theorem range_next {w : World} {g o : Nat} {blk : List UInt8 → Nat} {x : WaitC} {r : List WaitC} (hr : w.rangeAt g o ((x :: r).flatMap (waitV blk))) : w.rangeAt g (o + 3) (r.flatMap (waitV blk)) := by
  intro j v hv
  have := hr (3 + j) v (by
    rw [List.flatMap_cons, List.getElem?_append_right (by show 3 ≤ 3 + j; omega)]
    show (r.flatMap (waitV blk))[3 + j - 3]? = some v
    rw [Nat.add_sub_cancel_left]
    exact hv)
  rwa [← Nat.add_assoc] at this
theorem kept_len (p : WaitC → Bool) (L : List WaitC) (k : Nat) : (kept p L k).length ≤ k := by
  unfold kept
  have := List.length_filter_le (fun q => !p q) (L.take k)
  rw [List.length_take] at this
  omega
theorem kept_all (p : WaitC → Bool) (L : List WaitC) : kept p L L.length = L.filter fun q => !p q := by
  unfold kept
  rw [List.take_length]

/-- A clear whose run is known. -/
theorem wpList_clear_run {P : Program} {w w' : World} {ops : Array Oper} {rest : List Oper} {o : Oper} {a : Act} {Q : Exit → Act → World → Prop} (hgd : o.guard = none) (s : Operand) (t : TypeId)
    (ho : o.op = .call { callee := .builtin .clear, args := #[s], argTypes := #[t] }) (v r : Value) (hs : a.eval s = v) (hrun : ∀ ty, (Builtin.clear_ #[t] ty #[v]).run P w = .ok r w')
    (h : wpList P ops Q rest (a.put o.dst r) w') : wpList P ops Q (o :: rest) a w := by
  refine wpList_plain hgd fun K hK => ?_
  unfold Oper.wp
  simp [execOp, ho, resolve, invoke, builtin, hs, hrun, Result.andThen]
  exact hK _ _ h

set_option maxRecDepth 100000 in
theorem clear_tail {w : World} {g cap I n : Nat} {blk : List UInt8 → Nat} {K : List WaitC} (hW : WRow w g cap) (hI : I ≤ n) (hn : n ≤ cap) (hr : w.rangeAt g 0 (K.flatMap (waitV blk))) (hK : K.length = I) :
    ∃ W4, (∀ ty, (Builtin.clear_ #[73] ty #[.slice (some ⟨g, I * 3, none⟩) (n - I) (cap - I)]).run Tryz.prog w = .ok (.tuple #[]) W4) ∧ w.grownBy W4 (some g) ∧ WRow W4 g cap ∧ W4.rangeAt g 0 (K.flatMap (waitV blk)) := by
  obtain ⟨i0, hi, hz0, hz1, hz2⟩ := info_parts write_info
  have ht : w.there g (I * 3) ((n - I) * 3) := fun j hj => by
    have := hW.there (I * 3 + j) (by omega)
    rwa [Nat.zero_add] at this
  have hzl : (Builtin.zeroCells (Value.agg #[.pointer none, .int .i64 0, .string ⟨#[]⟩]).cells (n - I)).toList.length = (n - I) * 3 := by
    simp [Builtin.zeroCells, Value.cells]
  have hst := run_storeCells_cells (P := Tryz.prog) g (I * 3) (Builtin.zeroCells (Value.agg #[.pointer none, .int .i64 0, .string ⟨#[]⟩]).cells (n - I)).toList 0 w (by rw [hzl]; exact fun j hj => (ht j hj).1) (by rw [hzl]; exact fun j hj => (ht j hj).2) (by
    intro v hv
    simp only [Builtin.zeroCells, Array.toList_map, List.mem_map] at hv
    obtain ⟨i, _, rfl⟩ := hv
    show ((#[Value.pointer none, Value.int .i64 0, Value.string ⟨#[]⟩] : Array Value)[i % 3]!).oneCell' = true
    have h3 := Nat.mod_lt i (show 0 < 3 by decide)
    generalize i % 3 = r at *
    match r, h3 with
    | 0, _ => rfl
    | 1, _ => rfl
    | 2, _ => rfl)
  refine ⟨w.setCells g (I * 3) (Builtin.zeroCells (Value.agg #[.pointer none, .int .i64 0, .string ⟨#[]⟩]).cells (n - I)).toList, fun ty => ?_, grown_sets _ _ _ (World.grownBy.refl _ _), WRow.sets _ _ _ hW, World.rangeAt_setCells_apart hr _ _ _ (.inr (.inl (by rw [flat3, hK]; omega)))⟩
  by_cases h0 : n - I = 0
  · rw [h0]
    simp [Builtin.clear_, run_underlying Tryz.underlying73, Builtin.zeroCells, World.setCells]
  · simp [Builtin.clear_, run_underlying Tryz.underlying73, zeroValue, typeInfo, hi, hz0, h0, hst]

set_option maxRecDepth 100000 in
set_option maxHeartbeats 2000000 in
theorem DeleteFunc_any {w : World} {blk : List UInt8 → Nat} {n : List UInt8} {fb g cap : Nat} {L : List WaitC} (hc : w.cell? ⟨fb, 0, none⟩ = some (.pointer (some ⟨blk n, 0, none⟩))) (hn : Filed w blk n) (hL : ∀ q ∈ L, Filed w blk q.name)
    (hr : w.rangeAt g 0 (L.flatMap (waitV blk))) (hl : L.length ≤ 1000000000) (hW : WRow w g cap) (hcap : L.length ≤ cap) (hm : cap ≤ maxLen) (hfb : fb ≠ g) (hng : blk n ≠ g) (hLg : ∀ q ∈ L, blk q.name ≠ g) :
    Calls Tryz.prog 228 #[.slice (some ⟨g, 0, none⟩) L.length cap, .func (.func 261) #[] #[.pointer (some ⟨fb, 0, none⟩)]] w fun e w' =>
      e = .returned (.slice (some ⟨g, 0, none⟩) (L.filter fun q => !decide (blk q.name = blk n)).length cap) ∧ WRow w' g cap ∧ w'.rangeAt g 0 ((L.filter fun q => !decide (blk q.name = blk n)).flatMap (waitV blk)) ∧ w.grownBy w' (some g) := by
  have hI := IndexFunc_any (cap := cap) hc hn hL hr hl
  cases hf : L.findIdx? fun q => decide (blk q.name = blk n) with
  | none =>
    have hI2 : firstI (fun q => decide (blk q.name = blk n)) L = -1 := by
      unfold firstI
      rw [hf]
    rw [hI2] at hI
    have hall : L.filter (fun q => !decide (blk q.name = blk n)) = L := List.filter_eq_self.2 fun q hq => by
      have := List.findIdx?_eq_none_iff.1 hf q hq
      simp only [this, Bool.not_false]
    rw [hall]
    have HR := Lib.hid hr
    have HW := Lib.hid hW
    clear hr hW hn hL hLg hall hf hI2 hc
    go_enter Tryz.func228, Tryz.ntmps228
    go_wp2_with (fail)
    refine hI.mono ?_
    rintro e w1 ⟨rfl, hb1⟩
    have hg1 : w.grownBy w1 (some g) := ⟨hb1.os, hb1.tape, hb1.output, hb1.size, fun k hk _ => hb1.block k hk⟩
    have HG1 := Lib.hid hg1
    have HB1 := Lib.hid hb1
    clear hI hb1 hg1
    go_wp2
    go_ret
    exact ⟨rfl, HW.out.below HB1.out, range_below HR.out HB1.out, HG1.out⟩
  | some i =>
    obtain ⟨hi1, hi2, hi3⟩ := List.findIdx?_eq_some_iff_getElem.1 hf
    have hI2 : firstI (fun q => decide (blk q.name = blk n)) L = (i : Int) := by
      unfold firstI
      rw [hf]
    rw [hI2] at hI
    have hk1 : kept (fun q => decide (blk q.name = blk n)) L (i + 1) = L.take i := kept_first hi1 hi2 hi3
    have HC := Lib.hid hc
    have HN := Lib.hid hn
    have HL := Lib.hid hL
    have HR := Lib.hid hr
    have HLg := Lib.hid hLg
    have HW := Lib.hid hW
    have HK := Lib.hid hk1
    have HI2 := Lib.hid hi2
    clear hc hn hL hr hLg hW hf hi2 hi3 hI2 hk1
    have hmx : cap ≤ 9223372036854775807 := hm
    have hi0 : ((i : Int) == -1) = false := beq_eq_false_iff_ne.2 (by omega)
    go_enter Tryz.func228, Tryz.ntmps228
    go_wp2_with (fail)
    refine hI.mono ?_
    rintro e w1 ⟨rfl, hb1⟩
    have HB1 := Lib.hid hb1
    clear hI hb1
    go_wp2
    go_loopw [5, 6] (fun vi vj wr => ∃ I J : Nat, J ≤ L.length ∧ I < J ∧ vi = .int .i64 I ∧ vj = .int .i64 J ∧ Hid (I = (kept (fun q => decide (blk q.name = blk n)) L J).length) ∧ Hid (w.grownBy wr (some g)) ∧ Hid (WRow wr g cap) ∧
        Hid (wr.rangeAt g 0 ((kept (fun q => decide (blk q.name = blk n)) L J).flatMap (waitV blk))) ∧ Hid (wr.rangeAt g (J * 3) ((L.drop J).flatMap (waitV blk)))) (fun _ vj _ => L.length - (RowKit.intOf vj).toNat)
    case atStart =>
      have hg1 : w.grownBy w1 (some g) := ⟨HB1.out.os, HB1.out.tape, HB1.out.output, HB1.out.size, fun k hk _ => HB1.out.block k hk⟩
      have hr1 : w1.rangeAt g 0 (L.flatMap (waitV blk)) := fun j v hv => by
        have := HR.out j v hv
        rw [← this]
        exact HB1.out.cell (p := ⟨g, 0 + j, none⟩) (cell_lt this)
      refine ⟨i, i + 1, hi1, Nat.lt_succ_self _, rfl, by go_num, Lib.hid (by rw [HK.out, List.length_take]; omega), Lib.hid hg1, Lib.hid (HW.out.below HB1.out), Lib.hid ?_, Lib.hid ?_⟩
      · rw [HK.out]
        intro j v hv
        have hlt := (List.getElem?_eq_some_iff.1 hv).1
        refine hr1 j v ?_
        conv => lhs; rw [← List.take_append_drop i L]
        rw [List.flatMap_append, List.getElem?_append_left hlt]
        exact hv
      · intro j v hv
        have := hr1 ((i + 1) * 3 + j) v (by
          conv => lhs; rw [← List.take_append_drop (i + 1) L]
          rw [List.flatMap_append, List.getElem?_append_right (by rw [flat3, List.length_take]; omega), flat3, List.length_take, show (i + 1) * 3 + j - min (i + 1) L.length * 3 = j by omega]
          exact hv)
        rwa [Nat.zero_add] at this
    case round =>
      obtain ⟨I, J, hJ, hIJ, rfl, rfl, HI, HG, HW, HR0, HR1⟩ := hrel
      by_cases hlt : J < L.length
      · have hd : L.drop J = L[J] :: L.drop (J + 1) := List.drop_eq_getElem_cons hlt
        have hr1 := HR1.out
        rw [hd] at hr1
        obtain ⟨c0, c1, c2⟩ := cell3o hr1
        have HR2 := Lib.hid (range_next hr1)
        have HBX := Lib.hid ((Below.refl wr.heap.size wr).alloc (Nat.le_refl _) (.cells #[.pointer (some ⟨blk L[J].name, 0, none⟩), .int .i64 (L[J].pos : Int), .string (S L[J].s)] 306))
        have hcl := cell_lt HC.out
        have hsz := HG.out.size
        have h1 := (HBX.out.cell (p := ⟨fb, 0, none⟩) (by show fb < wr.heap.size; exact Nat.lt_of_lt_of_le hcl hsz)).trans ((World.cell?_of_block (a := ⟨fb, 0, none⟩) (HG.out.block fb hcl (by simpa using hfb))).trans HC.out)
        have hn1 := (HN.out.grown HG.out (by simpa using hng.symm)).below HBX.out
        have hq1 := ((HL.out _ (List.getElem_mem hlt)).grown HG.out (by simpa using (HLg.out _ (List.getElem_mem hlt)).symm)).below HBX.out
        have hcall := CL_any L[J] h1 hn1 hq1
        have hbn := Blk.new wr #[.pointer (some ⟨blk L[J].name, 0, none⟩), .int .i64 (L[J].pos : Int), .string (S L[J].s)] 306
        have hsx : wr.heap.size < (wr.alloc (.cells #[.pointer (some ⟨blk L[J].name, 0, none⟩), .int .i64 (L[J].pos : Int), .string (S L[J].s)] 306)).heap.size := by simp
        have hks := kept_succ (p := fun q => decide (blk q.name = blk n)) hlt
        have HKT : Hid (decide (blk L[J].name = blk n) = true → kept (fun q => decide (blk q.name = blk n)) L (J + 1) = kept (fun q => decide (blk q.name = blk n)) L J) := Lib.hid (fun h => by rw [hks, if_pos h])
        have HKF : Hid (decide (blk L[J].name = blk n) = false → kept (fun q => decide (blk q.name = blk n)) L (J + 1) = kept (fun q => decide (blk q.name = blk n)) L J ++ [L[J]]) := Lib.hid (fun h => by rw [hks, if_neg (by rw [h]; decide)])
        clear hks
        have HWX := Lib.hid (HW.out.below HBX.out)
        have HRX := Lib.hid (range_below HR0.out HBX.out)
        have HRY := Lib.hid (range_below HR2.out HBX.out)
        have HGX := Lib.hid (World.grownBy.trans HG.out (World.grownBy_alloc wr (.cells #[.pointer (some ⟨blk L[J].name, 0, none⟩), .int .i64 (L[J].pos : Int), .string (S L[J].s)] 306) (some g)))
        generalize hb : decide (blk L[J].name = blk n) = b at *
        clear hb h1 hn1 hq1 hr1 hd
        go_wp2_with (fail)
        refine hcall.mono ?_
        rintro e w3 ⟨rfl, hb3⟩
        have hbn3 := hbn.below hb3
        have HW3 := Lib.hid (HWX.out.below hb3)
        have HR3 := Lib.hid (range_below HRX.out hb3)
        have HS3 := Lib.hid (range_below HRY.out hb3)
        have HG3 : Hid (w.grownBy w3 (some g)) := Lib.hid (World.grownBy.trans HGX.out ⟨hb3.os, hb3.tape, hb3.output, hb3.size, fun k hk _ => hb3.block k hk⟩)
        clear HWX HRX HRY HGX hbn hcall c0 c1 c2 HW HR0 HR1 HR2 HBX HG hb3 hsz
        cases b
        · have e0 := hbn3.cell 0
          have e1 := hbn3.cell 1
          have e2 := hbn3.cell 2
          have ht : w3.there g (I * 3) 3 := fun j hj => by
            have := HW3.out.there (I * 3 + j) (by omega)
            rwa [Nat.zero_add] at this
          obtain ⟨v0, t0⟩ := Option.isSome_iff_exists.1 (ht 0 (by omega)).1
          obtain ⟨v1, t1⟩ := Option.isSome_iff_exists.1 (ht 1 (by omega)).1
          obtain ⟨v2, t2⟩ := Option.isSome_iff_exists.1 (ht 2 (by omega)).1
          have f0 : w3.frozen? ⟨g, I * 3, none⟩ = false := (ht 0 (by omega)).2
          have f1 : w3.frozen? ⟨g, I * 3 + 1, none⟩ = false := (ht 1 (by omega)).2
          have f2 : w3.frozen? ⟨g, I * 3 + 2, none⟩ = false := (ht 2 (by omega)).2
          rw [Nat.add_zero] at t0
          have HSET : Hid (w3.setCells g (I * 3) (waitV blk L[J]) = ((w3.setCell ⟨g, I * 3, none⟩ (.pointer (some ⟨blk L[J].name, 0, none⟩))).setCell ⟨g, I * 3 + 1, none⟩ (.int .i64 L[J].pos)).setCell ⟨g, I * 3 + 2, none⟩ (.string (S L[J].s))) := rfl
          have HT := Lib.hid ht
          clear ht
          go_wp2
          rw [← HSET.out]
          have hI := HI.out
          refine ⟨⟨I + 1, J + 1, hlt, by omega, by go_num, by go_num, Lib.hid ?_, Lib.hid (grown_sets _ _ _ HG3.out), Lib.hid (WRow.sets _ _ _ HW3.out), Lib.hid ?_, Lib.hid ?_⟩, by simp [RowKit.intOf]; omega⟩
          · rw [HKF.out (by simp), List.length_append, ← hI]
            rfl
          · rw [HKF.out (by simp)]
            have := range_snoc L[J] HR3.out (by rw [← hI]; exact HT.out)
            rwa [← hI] at this
          · rw [Nat.succ_mul]
            exact World.rangeAt_setCells_apart HS3.out _ _ _ (.inr (.inr (by show I * 3 + 3 ≤ J * 3 + 3; omega)))
        · go_wp2
          exact ⟨⟨I, J + 1, hlt, by omega, rfl, by go_num, Lib.hid (by rw [HKT.out (by simp)]; exact HI.out), HG3, HW3, Lib.hid (by rw [HKT.out (by simp)]; exact HR3.out), Lib.hid (by rw [Nat.succ_mul]; exact HS3.out)⟩, by simp [RowKit.intOf]; omega⟩
      · have hJn : J = L.length := by omega
        subst hJn
        rw [kept_all] at HI HR0
        obtain ⟨W4, hcl, hg4, hw4, hr4⟩ := clear_tail HW.out (show I ≤ L.length by omega) hcap HR0.out HI.out.symm
        have HG4 := Lib.hid (World.grownBy.trans HG.out hg4)
        have HCL := Lib.hid hcl
        have HW4 := Lib.hid hw4
        have HR4 := Lib.hid hr4
        clear hcl hg4 hw4 hr4
        go_wp2_with (first | (refine wpList_clear_run rfl _ 73 rfl _ _ rfl HCL.out ?_) | fail)
        go_ret
        exact ⟨congrArg (fun m => Ending.returned (Value.slice (some ⟨g, 0, none⟩) m cap)) HI.out, HW4.out, HR4.out, HG4.out⟩

end Go.Proofs.YtnacjogdndggeaaGreatDoor
end

section
namespace Go.Proofs.YtnacjogdndggeaaGreatDoor
open Go.Shelf Go.RowKit Go.Lib

set_option maxRecDepth 100000 in
set_option maxHeartbeats 1000000 in
theorem IndexFunc_nil {w : World} {fb : Nat} :
    Calls Tryz.prog 260 #[.slice none 0 0, .func (.func 261) #[] #[.pointer (some ⟨fb, 0, none⟩)]] w fun e w' => e = .returned (.int .i64 (-1)) ∧ w = w' := by
  go_enter Tryz.func260, Tryz.ntmps260
  go_wp2
  refine wp_loop_rounds 1 ?_
  rw [rounds_succ]
  go_wp2
  go_ret
  exact ⟨rfl, rfl⟩

set_option maxRecDepth 100000 in
set_option maxHeartbeats 1000000 in
theorem DeleteFunc_nil {w : World} {fb : Nat} :
    Calls Tryz.prog 228 #[.slice none 0 0, .func (.func 261) #[] #[.pointer (some ⟨fb, 0, none⟩)]] w fun e w' => e = .returned (.slice none 0 0) ∧ w = w' := by
  go_enter Tryz.func228, Tryz.ntmps228
  go_wp2_with (fail)
  refine IndexFunc_nil.mono ?_
  rintro e w1 ⟨rfl, rfl⟩
  go_wp2
  go_ret
  exact ⟨rfl, rfl⟩

theorem range_own {w : World} {base g n cap : Nat} {e : TypeId} {size : Nat} {xs : List Value} (h : w.ownsRow base e size (.slice (some ⟨g, 0, none⟩) n cap) n xs) : w.rangeAt g 0 xs := fun j v hv => by
  have := h.cells (g := g) rfl j v hv
  rwa [Addr.add_mid] at this
theorem WRow.of {w : World} {g n cap : Nat} {xs : List Value} (h : w.ownsRow 0 306 3 (.slice (some ⟨g, 0, none⟩) n cap) n xs) : WRow w g cap ∧ n ≤ cap ∧ cap ≤ maxLen := by
  rcases h.2 with ⟨h, _⟩ | ⟨g', cap', cur, e, _, h1, h2, h3, h4, _⟩
  · cases h
  · injection e with e1 e2 e3
    injection e1 with e1
    injection e1 with e1
    subst e1 e3
    exact ⟨⟨cur, h1, h4⟩, h2, h3⟩

/-- The writes of one file struck out, whatever slice they stand in. -/
def StruckPost (w : World) (wv : Value) (blk : List UInt8 → Nat) (K : List WaitC) (e : Ending) (w' : World) : Prop :=
  ∃ v, e = .returned v ∧ w'.ownsRow 0 306 3 v K.length (K.flatMap (waitV blk)) ∧ v.ownBlock = wv.ownBlock ∧ w.grownBy w' wv.ownBlock
theorem Struck {χ : Col} {c d fm : Nat} {D : Dsk} {blk : List UInt8 → Nat} {wv : Value} {w : World} {n : List UInt8} {fb : Nat} (h : DkAt χ c w d D fm blk wv) (hn : (D.file n).isSome = true) (hc : w.cell? ⟨fb, 0, none⟩ = some (.pointer (some ⟨blk n, 0, none⟩)))
    (hfb : wv.ownBlock ≠ some fb) (hl : D.waits.length ≤ 1000000000) :
    Calls Tryz.prog 228 #[wv, .func (.func 261) #[] #[.pointer (some ⟨fb, 0, none⟩)]] w (StruckPost w wv blk (D.waits.filter fun q => !decide (q.name = n))) := by
  have hfil : (D.waits.filter fun q => !decide (blk q.name = blk n)) = D.waits.filter fun q => !decide (q.name = n) := by
    apply List.filter_congr
    intro q hq
    by_cases e : q.name = n
    · rw [e]
      simp
    · have : blk q.name ≠ blk n := fun e2 => e (h.inj _ _ (h.there q hq) hn e2)
      simp [e, this]
  have hrow := h.row
  rcases hrow.2 with ⟨rfl, h0⟩ | ⟨g, cap, cur, rfl, _⟩
  · refine DeleteFunc_nil.mono ?_
    rintro e w' ⟨rfl, rfl⟩
    have hw : D.waits = [] := List.eq_nil_of_length_eq_zero h0
    rw [hw]
    exact ⟨_, rfl, World.ownsRow_nil _ _ _ _, rfl, World.grownBy.refl _ _⟩
  · obtain ⟨h1, h2, h3⟩ := WRow.of hrow
    have hne : ∀ m, (D.file m).isSome = true → blk m ≠ g := fun m hm e => by
      obtain ⟨f, hf⟩ := Option.isSome_iff_exists.1 hm
      exact h.ne_row hf (by rw [e]; rfl)
    refine (DeleteFunc_any hc (h.filed hn) (fun q hq => h.filed (h.there q hq)) (range_own hrow) hl h1 h2 h3 (fun e => hfb (by rw [e]; rfl)) (hne n hn) (fun q hq => hne _ (h.there q hq))).mono ?_
    rintro e w' ⟨rfl, hw, hr, hg⟩
    rw [hfil] at hr
    rw [hfil]
    refine ⟨_, rfl, hw.own hr ?_ h3, rfl, hg⟩
    exact Nat.le_trans (List.length_filter_le _ _) h2

set_option maxRecDepth 100000 in
set_option maxHeartbeats 4000000 in
theorem lasts_any {χ : Col} {c d : Nat} {D : Dsk} {w : World} {A : Option Addr} {cp : Nat} {l : List (List UInt8)} (h : IsDk χ c w d D) (hr : RSa w A l) (hA : ∀ b o, A = some ⟨b, o, none⟩ → χ b ≠ c) (hall : ∀ n ∈ l, (D.file n).isSome = true)
    (hl : l.length ≤ 1000000) (hW : D.waits.length ≤ 1000000000) :
    Calls Tryz.prog 230 #[.pointer (some ⟨d, 0, none⟩), .slice A l.length cp] w fun e w' => e = .returned (.tuple #[]) ∧ Stp (· = c) χ w χ w' ∧ IsDk χ c w' d (D.sync l) := by
  obtain ⟨fm, blk, wv, h⟩ := h
  have HD := Lib.hid h
  have HS := Lib.hid (Stp.refl (· = c) χ w)
  have HR := Lib.hid hr
  have HA := Lib.hid hA
  have HALL := Lib.hid hall
  have HW := Lib.hid hW
  clear h hr hA hall hW
  go_enter Tryz.func230, Tryz.ntmps230
  go_wp2
  go_loopw [9] (fun vi wr => ∃ (k : Nat) (wv' : Value), k ≤ l.length ∧ vi = .int .i64 k ∧ Hid (DkAt χ c wr d (D.sync (l.take k)) fm blk wv') ∧ Hid (Stp (· = c) χ w χ wr)) (fun vi _ => l.length - (RowKit.intOf vi).toNat)
  case atStart => exact ⟨0, wv, Nat.zero_le _, rfl, by rw [List.take_zero]; exact HD, HS⟩
  case round =>
    obtain ⟨k, wv', hk, rfl, HD1, HS1⟩ := hrel
    by_cases hlt : k < l.length
    · obtain ⟨b, o, rfl, hc⟩ := HR.out k hlt
      have hg : l.getD k [] = l[k] := by simp [List.getD_eq_getElem?_getD, hlt]
      rw [hg] at hc
      have hcr := (HS1.out.cell (cell_lt hc) (HA.out b o rfl)).trans hc
      have hsome : ((D.sync (l.take k)).file l[k]).isSome = true := by
        rw [Dsk.file_sync_some]
        exact HALL.out _ (List.getElem_mem hlt)
      obtain ⟨f, hf⟩ := Option.isSome_iff_exists.1 hsome
      have hnl : l[k].length ≤ maxLen := by have := (HD1.out.len _ f hf).1; unfold maxLen; omega
      have hlk := HD1.out.lookup l[k] hnl
      rw [hf] at hlk
      simp only at hlk
      have c2 := HD1.out.own.1.cell 2
      have cn := (HD1.out.file _ f hf).1.cell 1
      have ci := (HD1.out.file _ f hf).1.cell 0
      have fi := (HD1.out.file _ f hf).1.frozen 0
      go_upto_region 4 with (fail)
      have hbn := Blk.new wr #[.pointer (some ⟨blk l[k], 0, none⟩)] 262
      have HD2 := Lib.hid (HD1.out.stp (C := fun _ => False) ((Stp.refl _ χ wr).alloc (.cells #[.pointer (some ⟨blk l[k], 0, none⟩)] 262)) (fun h => h))
      have HS2 := Lib.hid (HS1.out.alloc (.cells #[.pointer (some ⟨blk l[k], 0, none⟩)] 262))
      have HZ2 : Hid (w.heap.size ≤ wr.heap.size) := Lib.hid HS1.out.size
      have hne : blk l[k] ≠ wr.heap.size := Nat.ne_of_lt (HD1.out.file _ f hf).1.lt
      have hsz1 : wr.heap.size < (wr.alloc (.cells #[.pointer (some ⟨blk l[k], 0, none⟩)] 262)).heap.size := by simp
      have hrow : wv'.ownBlock ≠ some wr.heap.size := fun e => by have := (HD1.out.row.lt _ e).2; omega
      clear c2 cn ci fi hlk hcr hc
      generalize wr.alloc (.cells #[.pointer (some ⟨blk l[k], 0, none⟩)] 262) = w1 at *
      have b0 := hbn.cell 0
      have cn := (HD2.out.file _ f hf).1.cell 1
      have ci := (HD2.out.file _ f hf).1.cell 0
      have fi := (HD2.out.file _ f hf).1.frozen 0
      go_region
      have hszf : ({ D.sync (l.take k) with files := amod l[k] ⟨f.now, f.now⟩ (D.sync (l.take k)).files } : Dsk).size ≤ (D.sync (l.take k)).cap := by
        have := Dsk.size_last1 HD2.out.uni hf
        unfold Dsk.last1 at this
        rw [hf] at this
        rw [show ({ D.sync (l.take k) with files := amod l[k] ⟨f.now, f.now⟩ (D.sync (l.take k)).files } : Dsk).size = (D.sync (l.take k)).size from this]
        exact HD2.out.size
      have hlens := HD2.out.len _ f hf
      have HD3 : Hid (DkAt χ c (w1.setCell ⟨blk l[k], 0, none⟩ (.string (S f.now))).drew d { D.sync (l.take k) with files := amod l[k] ⟨f.now, f.now⟩ (D.sync (l.take k)).files } fm blk wv') := Lib.hid
        ((HD2.out.setFile hf ⟨f.now, f.now⟩ ⟨hlens.2.2, hlens.2.2⟩ hszf (grown_set _ _ _ _) ((HD2.out.file _ f hf).1.set 0 _)).stp (C := fun _ => False) (Stp.refl _ _ _).drew (fun h => h))
      have HS3 : Hid (Stp (· = c) χ w χ (w1.setCell ⟨blk l[k], 0, none⟩ (.string (S f.now))).drew) := Lib.hid (HS2.out.set (.inl (HD2.out.file _ f hf).2) _).drew
      have hbn3 : Blk (w1.setCell ⟨blk l[k], 0, none⟩ (.string (S f.now))).drew wr.heap.size #[.pointer (some ⟨blk l[k], 0, none⟩)] 262 := hbn.set_ne (p := ⟨blk l[k], 0, none⟩) hne.symm _
      have HF : Hid (D.sync (l.take (k + 1)) = { { D.sync (l.take k) with files := amod l[k] ⟨f.now, f.now⟩ (D.sync (l.take k)).files } with waits := (D.sync (l.take k)).waits.filter fun q => !decide (q.name = l[k]) }) := Lib.hid (by
        rw [List.take_succ_eq_append_getElem hlt]
        show List.foldl Dsk.last1 D _ = _
        rw [List.foldl_append]
        show (D.sync (l.take k)).last1 l[k] = _
        unfold Dsk.last1
        rw [hf])
      have hwl : (D.sync (l.take k)).waits.length ≤ 1000000000 := by
        rw [Dsk.waits_sync _ _ (fun n hn => HALL.out n (List.mem_of_mem_take hn))]
        exact Nat.le_trans (List.length_filter_le _ _) HW.out
      have hsome3 : (({ D.sync (l.take k) with files := amod l[k] ⟨f.now, f.now⟩ (D.sync (l.take k)).files } : Dsk).file l[k]).isSome = true := by
        show (aget (amod l[k] _ _) l[k]).isSome = true
        rw [aget_amod, if_pos rfl]
        have := hf
        unfold Dsk.file at this
        rw [this]
        rfl
      generalize (w1.setCell ⟨blk l[k], 0, none⟩ (.string (S f.now))).drew = w2 at *
      have hcall := Struck HD3.out hsome3 (hbn3.cell 0) hrow hwl
      have c3 := HD3.out.own.1.cell 3
      clear hbn b0 cn ci fi HD2 HS2 hszf hlens hf
      go_wp2_with (fail)
      refine hcall.mono ?_
      rintro e w3 ⟨v3, rfl, hr3, ho3, hg3⟩
      have hd3 := HD3.out.own.1.grown hg3 HD3.out.d_row
      have c5 := hd3.cell 3
      have f5 := hd3.frozen 3
      have HD4 : Hid (DkAt χ c (w3.setCell ⟨d, 3, none⟩ v3) d (D.sync (l.take (k + 1))) fm blk v3) := Lib.hid (by
        rw [HF.out]
        exact HD3.out.setWaits v3 _ (fun _ _ => rfl) hg3 hr3 (fun g hg => HD3.out.crow g (by rw [← ho3]; exact hg)) (fun q hq => HD3.out.there q ((List.mem_filter.1 hq).1)))
      have HS4 : Hid (Stp (· = c) χ w χ (w3.setCell ⟨d, 3, none⟩ v3)) := Lib.hid ((HS3.out.trans (Stp.of_grown hg3 fun g hg => .inl (HD3.out.crow g hg))).set (.inl HD3.out.own.2) _)
      obtain ⟨A3, cap3, rfl⟩ := row_any hr3
      clear hr3 ho3 hg3 hd3 HD3 HS3 hcall c3 hwl hsome3 hbn3 HF
      go_wp2
      exact ⟨⟨k + 1, _, hlt, by go_num, HD4, HS4⟩, by simp [RowKit.intOf]; omega⟩
    · have hkn : k = l.length := by omega
      subst hkn
      rw [List.take_length] at HD1
      go_wp2
      go_end0
      exact ⟨rfl, HS1.out, fm, blk, wv', HD1.out⟩

set_option maxRecDepth 100000 in
set_option maxHeartbeats 2000000 in
theorem bars_all {χ : Col} {c d : Nat} {D : Dsk} {w : World} {A : Option Addr} {cp : Nat} {l : List (List UInt8)} (h : IsDk χ c w d D) (hr : RSa w A l) (hall : ∀ n ∈ l, (D.file n).isSome = true) (hl : l.length ≤ 1000000) :
    Calls Tryz.prog 179 #[.pointer (some ⟨d, 0, none⟩), .slice A l.length cp] w fun e w' => e = .returned (.int .i64 0) ∧ w = w' := by
  obtain ⟨fm, blk, wv, h⟩ := h
  have c1 := h.own.1.cell 1
  have c2 := h.own.1.cell 2
  have HD := Lib.hid h
  have HALL := Lib.hid hall
  have HR := Lib.hid hr
  clear h hall hr
  go_enter Tryz.func179, Tryz.ntmps179
  go_wp2
  go_loop [18] (fun vi => ∃ k : Nat, k ≤ l.length ∧ vi = .int .i64 k) (fun vi => l.length - (RowKit.intOf vi).toNat)
  case atStart => exact ⟨0, Nat.zero_le _, rfl⟩
  case round =>
    obtain ⟨k, hk, rfl⟩ := hrel
    by_cases hlt : k < l.length
    · obtain ⟨b, o, rfl, hc⟩ := HR.out k hlt
      have hg : l.getD k [] = l[k] := by simp [List.getD_eq_getElem?_getD, hlt]
      rw [hg] at hc
      obtain ⟨f, hf⟩ := Option.isSome_iff_exists.1 (HALL.out _ (List.getElem_mem hlt))
      have hlk := HD.out.lookup l[k] (by have := (HD.out.len _ f hf).1; unfold maxLen; omega)
      rw [hf] at hlk
      simp only at hlk
      clear hf
      go_wp2
      exact ⟨⟨k + 1, hlt, by go_num⟩, by simp [RowKit.intOf]; omega⟩
    · have hkn : k = l.length := by omega
      subst hkn
      go_wp2
      go_ret
      exact ⟨rfl, rfl⟩

set_option maxRecDepth 100000 in
set_option maxHeartbeats 1000000 in
theorem DSync_good {χ : Col} {c d : Nat} {D : Dsk} {w : World} {A : Option Addr} {cp : Nat} {l : List (List UInt8)} (h : IsDk χ c w d D) (hr : RSa w A l) (hA : ∀ b o, A = some ⟨b, o, none⟩ → χ b ≠ c) (hall : ∀ n ∈ l, (D.file n).isSome = true)
    (hl : l.length ≤ 1000000) (hW : D.waits.length ≤ 1000000000) :
    Calls Tryz.prog 182 #[.pointer (some ⟨d, 0, none⟩), .slice A l.length cp] w fun e w' => e = .returned (.int .i64 0) ∧ Stp (· = c) χ w χ w' ∧ IsDk χ c w' d (D.sync l) := by
  have h1 := bars_all (cp := cp) h hr hall hl
  have h2 := done_any h
  have h3 := lasts_any (cp := cp) h hr hA hall hl hW
  clear h hr hA hall
  go_enter Tryz.func182, Tryz.ntmps182
  go_wp2_with (fail)
  refine h1.mono ?_
  rintro e w' ⟨rfl, rfl⟩
  go_wp2_with (fail)
  refine h2.mono ?_
  rintro e w' ⟨rfl, rfl⟩
  go_wp2_with (fail)
  refine h3.mono ?_
  rintro e w' ⟨rfl, hs, hd⟩
  have HS := Lib.hid hs
  have HD := Lib.hid hd
  clear h1 h2 h3 hs hd
  go_wp2
  go_ret
  exact ⟨rfl, HS.out, HD.out⟩

end Go.Proofs.YtnacjogdndggeaaGreatDoor
end
