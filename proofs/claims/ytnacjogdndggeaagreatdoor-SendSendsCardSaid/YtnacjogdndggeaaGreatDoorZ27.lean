/- Layer 8 (tape): place and Ids of a tape without records. Layers 18, 19, 20 (disp, enq, deq): New. Layers 8 and 18 (tape, disp): Next, Step and All where there is nothing. Layer 19 (enq): Late where nothing is late. -/
import Derived.Test.YtnacjogdndggeaaGreatDoorZ25
import Derived.Test.YtnacjogdndggeaaGreatDoorZ05
import Derived.Test.YtnacjogdndggeaaGreatDoorZ23
section
namespace Go.Proofs.YtnacjogdndggeaaGreatDoor
open Go.Shelf Go.RowKit Go.Lib
set_option maxRecDepth 100000
set_option maxHeartbeats 1000000

theorem place_none {χ : Col} {c cr t d : Nat} {T : TapeM} {w : World} (h : IsTape χ c cr w t d T) (hr : T.recs = []) (n : Int) :
    Calls Tryz.prog 29 #[.pointer (some ⟨t, 0, none⟩), .int .i64 n] w fun e w' => e = .returned (.int .i64 0) ∧ w = w' := by
  obtain ⟨r, g, m, iv, h⟩ := h
  have hi := h.ids
  rw [hr] at hi
  obtain ⟨A, cap, rfl⟩ := row_any hi
  have c2 := h.own.1.cell 2
  have hb := Tryz.slices_BinarySearch_int_empty A cap n w
  clear h hr hi
  go_enter Tryz.func29, Tryz.ntmps29
  go_wp2_with (fail)
  refine hb.mono ?_
  rintro e w' ⟨rfl, rfl⟩
  clear hb
  go_wp2
  go_ret
  exact ⟨rfl, rfl⟩

theorem IsTape.drew {χ : Col} {c cr t d : Nat} {T : TapeM} {w : World} (h : IsTape χ c cr w t d T) : IsTape χ c cr w.drew t d T := h.stp (C := fun _ => False) (Stp.of_below (Below.refl _ _).drew) (fun h => h) (fun h => h)
theorem Ids_none {χ : Col} {c cr t d : Nat} {T : TapeM} {w : World} (h : IsTape χ c cr w t d T) (hr : T.recs = []) (n : Int) :
    Calls Tryz.prog 13 #[.pointer (some ⟨t, 0, none⟩), .int .i64 n] w fun e w' => ∃ A cap, e = .returned (.slice A 0 cap) ∧ Below w.heap.size w w' := by
  have hp := fun (W : World) (h : IsTape χ c cr W t d T) => place_none h hr n
  have HT := Lib.hid h
  obtain ⟨r, g, m, iv, h⟩ := h
  have hi := h.ids
  rw [hr] at hi
  have hlt := h.own.1.lt
  obtain ⟨A, cap, rfl⟩ := row_any hi
  have c2 : w.drew.cell? ⟨t, 2, none⟩ = some (.slice A 0 cap) := h.own.1.cell 2
  clear h hr hi
  cases A with
  | none =>
    go_enter Tryz.func13, Tryz.ntmps13
    go_upto_region 3 with (fail)
    refine wp_region_held_drew (S := fun w' => w'.cell? ⟨t, 2, none⟩ = some (.slice none 0 cap)) (by kernel_rfl) c2 (fun hHeld => ?_)
    have hp1 := hp w.drew HT.out.drew
    have hB0 := (Below.refl w.heap.size w).drew
    have ht1 := hlt
    generalize w.drew = w1 at *
    refine wpAnyH_take (i := 0) (oi := ⟨some 7, _, _, _, _, _⟩) (v := ?_) rfl (by kernel_rfl) (by kernel_rfl) (by kernel_rfl) (fun _ _ _ h => h) (Or.inl ⟨by rfl, (by intro w hSw; (try dsimp only at hSw); go_simp; try with_reducible rfl)⟩) hHeld ?_
    try simp only [Act.put, List.setIfInBounds_toArray, List.set_cons_zero, List.set_cons_succ]
    refine wpAnyH_take (i := 1) (oi := ⟨some 8, _, _, _, _, _⟩) (v := ?_) rfl (by kernel_rfl) (by kernel_rfl) (by kernel_rfl) (fun _ _ _ h => h) (Or.inl ⟨by rfl, (by intro w hSw; (try dsimp only at hSw); go_simp; try with_reducible rfl)⟩) hHeld ?_
    try simp only [Act.put, List.setIfInBounds_toArray, List.set_cons_zero, List.set_cons_succ]
    refine wpAnyH_take (i := 2) (oi := ⟨some 9, _, _, _, _, _⟩) (v := ?_) rfl (by kernel_rfl) (by kernel_rfl) (by kernel_rfl) (fun _ _ _ h => h) (Or.inl ⟨by rfl, (by intro w hSw; (try dsimp only at hSw); go_simp; try with_reducible rfl)⟩) hHeld ?_
    try simp only [Act.put, List.setIfInBounds_toArray, List.set_cons_zero, List.set_cons_succ]
    refine wpAnyH_take (i := 3) (oi := ⟨some 10, _, _, _, _, _⟩) (v := ?_) rfl (by kernel_rfl) (by kernel_rfl) (by kernel_rfl) (fun _ _ _ h => h) (Or.inl ⟨by rfl, (by intro w hSw; (try dsimp only at hSw); go_simp; try with_reducible rfl)⟩) hHeld ?_
    try simp only [Act.put, List.setIfInBounds_toArray, List.set_cons_zero, List.set_cons_succ]
    refine wpAnyH_take (i := 4) (oi := ⟨some 11, _, _, _, _, _⟩) (v := ?_) rfl (by kernel_rfl) (by kernel_rfl) (by kernel_rfl) (fun _ _ _ h => h) (Or.inl ⟨by rfl, (by intro w hSw; (try dsimp only at hSw); go_simp; try with_reducible rfl)⟩) hHeld ?_
    try simp only [Act.put, List.setIfInBounds_toArray, List.set_cons_zero, List.set_cons_succ]
    refine wpAnyH_take (i := 5) (oi := ⟨some 12, _, _, _, _, _⟩) (v := ?_) rfl (by kernel_rfl) (by kernel_rfl) (by kernel_rfl) (fun _ _ _ h => h) (Or.inl ⟨by rfl, (by intro w hSw; (try dsimp only at hSw); go_simp; try with_reducible rfl)⟩) hHeld ?_
    try simp only [Act.put, List.setIfInBounds_toArray, List.set_cons_zero, List.set_cons_succ]
    refine wpAnyH_ready (rs := [6]) (by kernel_rfl) (by simp) ?_
    refine AllReadyH.cons (o := ⟨some 13, _, _, _, _, _⟩) rfl (fun K hK => ?_) AllReadyH.nil
    go_simp
    refine hp1.mono ?_
    rintro e w' ⟨rfl, rfl⟩
    have hS2 := hHeld
    refine hK.out _ _ hS2 (fun hHeld => ?_)
    clear hK K
    try simp only [Act.put, List.setIfInBounds_toArray, List.set_cons_zero, List.set_cons_succ]
    refine wpAnyH_take (i := 7) (oi := ⟨some 14, _, _, _, _, _⟩) (v := ?_) rfl (by kernel_rfl) (by kernel_rfl) (by kernel_rfl) (fun _ _ _ h => h) (Or.inl ⟨by rfl, (by intro w hSw; (try dsimp only at hSw); go_simp; try with_reducible rfl)⟩) hHeld ?_
    try simp only [Act.put, List.setIfInBounds_toArray, List.set_cons_zero, List.set_cons_succ]
    refine wpAnyH_ready (rs := [8]) (by kernel_rfl) (by simp) ?_
    refine AllReadyH.cons (o := ⟨some 15, _, _, _, _, _⟩) rfl (fun K hK => ?_) AllReadyH.nil
    go_simp
    refine (Tryz.slices_Clone_int_nil 0 cap w1).mono ?_
    rintro e w' ⟨rfl, rfl⟩
    have hS2 := hHeld
    refine hK.out _ _ hS2 (fun hHeld => ?_)
    clear hK K
    try simp only [Act.put, List.setIfInBounds_toArray, List.set_cons_zero, List.set_cons_succ]
    refine wpAnyH_take (i := 9) (oi := ⟨some 4, _, _, _, _, _⟩) (v := ?_) rfl (by kernel_rfl) (by kernel_rfl) (by kernel_rfl) (fun _ _ _ h => h) (Or.inl ⟨by rfl, (by intro w hSw; (try dsimp only at hSw); go_simp; try with_reducible rfl)⟩) hHeld ?_
    try simp only [Act.put, List.setIfInBounds_toArray, List.set_cons_zero, List.set_cons_succ]
    refine wpAnyH_done (by kernel_rfl) ?_ _
    go_wp2
    go_ret
    exact ⟨none, 0, rfl, hB0⟩
  | some a =>
    go_enter Tryz.func13, Tryz.ntmps13
    go_upto_region 3 with (fail)
    refine wp_region_held_drew (S := fun w' => w'.cell? ⟨t, 2, none⟩ = some (.slice (some a) 0 cap)) (by kernel_rfl) c2 (fun hHeld => ?_)
    have hp1 := hp w.drew HT.out.drew
    have hB0 := (Below.refl w.heap.size w).drew
    have ht1 := hlt
    generalize w.drew = w1 at *
    refine wpAnyH_take (i := 0) (oi := ⟨some 7, _, _, _, _, _⟩) (v := ?_) rfl (by kernel_rfl) (by kernel_rfl) (by kernel_rfl) (fun _ _ _ h => h) (Or.inl ⟨by rfl, (by intro w hSw; (try dsimp only at hSw); go_simp; try with_reducible rfl)⟩) hHeld ?_
    try simp only [Act.put, List.setIfInBounds_toArray, List.set_cons_zero, List.set_cons_succ]
    refine wpAnyH_take (i := 1) (oi := ⟨some 8, _, _, _, _, _⟩) (v := ?_) rfl (by kernel_rfl) (by kernel_rfl) (by kernel_rfl) (fun _ _ _ h => h) (Or.inl ⟨by rfl, (by intro w hSw; (try dsimp only at hSw); go_simp; try with_reducible rfl)⟩) hHeld ?_
    try simp only [Act.put, List.setIfInBounds_toArray, List.set_cons_zero, List.set_cons_succ]
    refine wpAnyH_take (i := 2) (oi := ⟨some 9, _, _, _, _, _⟩) (v := ?_) rfl (by kernel_rfl) (by kernel_rfl) (by kernel_rfl) (fun _ _ _ h => h) (Or.inl ⟨by rfl, (by intro w hSw; (try dsimp only at hSw); go_simp; try with_reducible rfl)⟩) hHeld ?_
    try simp only [Act.put, List.setIfInBounds_toArray, List.set_cons_zero, List.set_cons_succ]
    refine wpAnyH_take (i := 3) (oi := ⟨some 10, _, _, _, _, _⟩) (v := ?_) rfl (by kernel_rfl) (by kernel_rfl) (by kernel_rfl) (fun _ _ _ h => h) (Or.inl ⟨by rfl, (by intro w hSw; (try dsimp only at hSw); go_simp; try with_reducible rfl)⟩) hHeld ?_
    try simp only [Act.put, List.setIfInBounds_toArray, List.set_cons_zero, List.set_cons_succ]
    refine wpAnyH_take (i := 4) (oi := ⟨some 11, _, _, _, _, _⟩) (v := ?_) rfl (by kernel_rfl) (by kernel_rfl) (by kernel_rfl) (fun _ _ _ h => h) (Or.inl ⟨by rfl, (by intro w hSw; (try dsimp only at hSw); go_simp; try with_reducible rfl)⟩) hHeld ?_
    try simp only [Act.put, List.setIfInBounds_toArray, List.set_cons_zero, List.set_cons_succ]
    refine wpAnyH_take (i := 5) (oi := ⟨some 12, _, _, _, _, _⟩) (v := ?_) rfl (by kernel_rfl) (by kernel_rfl) (by kernel_rfl) (fun _ _ _ h => h) (Or.inl ⟨by rfl, (by intro w hSw; (try dsimp only at hSw); go_simp; try with_reducible rfl)⟩) hHeld ?_
    try simp only [Act.put, List.setIfInBounds_toArray, List.set_cons_zero, List.set_cons_succ]
    refine wpAnyH_ready (rs := [6]) (by kernel_rfl) (by simp) ?_
    refine AllReadyH.cons (o := ⟨some 13, _, _, _, _, _⟩) rfl (fun K hK => ?_) AllReadyH.nil
    go_simp
    refine hp1.mono ?_
    rintro e w' ⟨rfl, rfl⟩
    have hS2 := hHeld
    refine hK.out _ _ hS2 (fun hHeld => ?_)
    clear hK K
    try simp only [Act.put, List.setIfInBounds_toArray, List.set_cons_zero, List.set_cons_succ]
    refine wpAnyH_take (i := 7) (oi := ⟨some 14, _, _, _, _, _⟩) (v := ?_) rfl (by kernel_rfl) (by kernel_rfl) (by kernel_rfl) (fun _ _ _ h => h) (Or.inl ⟨by rfl, (by intro w hSw; (try dsimp only at hSw); go_simp; try with_reducible rfl)⟩) hHeld ?_
    try simp only [Act.put, List.setIfInBounds_toArray, List.set_cons_zero, List.set_cons_succ]
    refine wpAnyH_ready (rs := [8]) (by kernel_rfl) (by simp) ?_
    refine AllReadyH.cons (o := ⟨some 15, _, _, _, _, _⟩) rfl (fun K hK => ?_) AllReadyH.nil
    go_simp
    refine (Tryz.slices_Clone_int_zero a cap w1).mono ?_
    rintro e w2 ⟨v, rfl, hv, _, hb⟩
    have hS2 := (hb.cell (p := ⟨t, 2, none⟩) (cell_lt hHeld)).trans hHeld
    obtain ⟨A2, cap2, rfl⟩ := row_any hv
    refine hK.out _ _ hS2 (fun hHeld => ?_)
    clear hK K
    try simp only [Act.put, List.setIfInBounds_toArray, List.set_cons_zero, List.set_cons_succ]
    refine wpAnyH_take (i := 9) (oi := ⟨some 4, _, _, _, _, _⟩) (v := ?_) rfl (by kernel_rfl) (by kernel_rfl) (by kernel_rfl) (fun _ _ _ h => h) (Or.inl ⟨by rfl, (by intro w hSw; (try dsimp only at hSw); go_simp; try with_reducible rfl)⟩) hHeld ?_
    try simp only [Act.put, List.setIfInBounds_toArray, List.set_cons_zero, List.set_cons_succ]
    refine wpAnyH_done (by kernel_rfl) ?_ _
    go_wp2
    go_ret
    exact ⟨A2, cap2, rfl, hB0.trans (hb.mono hB0.size)⟩

end Go.Proofs.YtnacjogdndggeaaGreatDoor
end

section
namespace Go.Proofs.YtnacjogdndggeaaGreatDoor
open Go.Shelf Go.RowKit Go.Lib
set_option maxRecDepth 100000
set_option maxHeartbeats 1000000

def IsDisp (χ : Col) (c : Nat) (w : World) (p t q x : Nat) (at_ : Nat) : Prop := CBlk χ c w p #[.pointer (some ⟨t, 0, none⟩), .pointer (some ⟨q, 0, none⟩), .pointer (some ⟨x, 0, none⟩), .int .i64 at_] 252
theorem dispNew_any {χ : Col} {ct cr t d : Nat} {T : TapeM} {w : World} (c q x : Nat) (h : IsTape χ ct cr w t d T) (hz : T.row.many = 0 → T.row.begin = 0) :
    Calls Tryz.prog 105 #[.pointer (some ⟨t, 0, none⟩), .pointer (some ⟨q, 0, none⟩), .pointer (some ⟨x, 0, none⟩)] w fun e w' => ∃ p χ', e = .returned (.tuple #[.pointer (some ⟨p, 0, none⟩), .int .i64 0]) ∧ Stp (fun _ => False) χ w χ' w' ∧ IsDisp χ' c w' p t q x T.row.begin := by
  have hB := Begin_tape h hz
  clear h
  go_enter Tryz.func105, Tryz.ntmps105
  go_wp2_with (fail)
  refine hB.mono ?_
  rintro e w' ⟨rfl, rfl⟩
  clear hB
  go_wp2_with (fail)
  go_ret2
  exact ⟨w.heap.size, paint χ w.heap.size c, rfl, (Stp.of_below ((Below.refl w.heap.size w).alloc (Nat.le_refl _) (.cells #[.pointer (some ⟨t, 0, none⟩), .pointer (some ⟨q, 0, none⟩), .pointer (some ⟨x, 0, none⟩), .int .i64 T.row.begin] 252))).paint (Nat.le_refl _) c, Blk.new w _ _, paint_new (Nat.le_refl _)⟩

def IsEnq (χ : Col) (c : Nat) (w : World) (p t q x : Nat) (at_ : Nat) : Prop := CBlk χ c w p #[.pointer (some ⟨t, 0, none⟩), .pointer (some ⟨q, 0, none⟩), .pointer (some ⟨x, 0, none⟩), .int .i64 at_, .slice none 0 0] 254
theorem enqNew_any {χ : Col} {ct cr t d : Nat} {T : TapeM} {w : World} (c q x : Nat) (h : IsTape χ ct cr w t d T) (hz : T.row.many = 0 → T.row.begin = 0) :
    Calls Tryz.prog 106 #[.pointer (some ⟨t, 0, none⟩), .pointer (some ⟨q, 0, none⟩), .pointer (some ⟨x, 0, none⟩)] w fun e w' => ∃ p χ', e = .returned (.tuple #[.pointer (some ⟨p, 0, none⟩), .int .i64 0]) ∧ Stp (fun _ => False) χ w χ' w' ∧ IsEnq χ' c w' p t q x T.row.begin := by
  have hB := Begin_tape h hz
  clear h
  go_enter Tryz.func106, Tryz.ntmps106
  go_wp2_with (fail)
  refine hB.mono ?_
  rintro e w' ⟨rfl, rfl⟩
  clear hB
  go_wp2_with (fail)
  go_ret2
  exact ⟨w.heap.size, paint χ w.heap.size c, rfl, (Stp.of_below ((Below.refl w.heap.size w).alloc (Nat.le_refl _) (.cells #[.pointer (some ⟨t, 0, none⟩), .pointer (some ⟨q, 0, none⟩), .pointer (some ⟨x, 0, none⟩), .int .i64 T.row.begin, .slice none 0 0] 254))).paint (Nat.le_refl _) c, Blk.new w _ _, paint_new (Nat.le_refl _)⟩

def IsDeq (χ : Col) (c : Nat) (w : World) (p t q x : Nat) : Prop := CBlk χ c w p #[.pointer (some ⟨t, 0, none⟩), .pointer (some ⟨q, 0, none⟩), .pointer (some ⟨x, 0, none⟩), .slice none 0 0] 256
theorem deqNew_any {χ : Col} {w : World} (c t q x : Nat) :
    Calls Tryz.prog 107 #[.pointer (some ⟨t, 0, none⟩), .pointer (some ⟨q, 0, none⟩), .pointer (some ⟨x, 0, none⟩)] w fun e w' => ∃ p χ', e = .returned (.tuple #[.pointer (some ⟨p, 0, none⟩), .int .i64 0]) ∧ Stp (fun _ => False) χ w χ' w' ∧ IsDeq χ' c w' p t q x := by
  go_enter Tryz.func107, Tryz.ntmps107
  go_wp2
  go_ret2
  exact ⟨w.heap.size, paint χ w.heap.size c, rfl, (Stp.of_below ((Below.refl w.heap.size w).alloc (Nat.le_refl _) (.cells #[.pointer (some ⟨t, 0, none⟩), .pointer (some ⟨q, 0, none⟩), .pointer (some ⟨x, 0, none⟩), .slice none 0 0] 256))).paint (Nat.le_refl _) c, Blk.new w _ _, paint_new (Nat.le_refl _)⟩

end Go.Proofs.YtnacjogdndggeaaGreatDoor
end

section
namespace Go.Proofs.YtnacjogdndggeaaGreatDoor
open Go.Shelf Go.RowKit Go.Lib
set_option maxRecDepth 100000
set_option maxHeartbeats 1000000

theorem Next_none {χ : Col} {c cr t d : Nat} {T : TapeM} {w : World} (h : IsTape χ c cr w t d T) (hr : T.recs = []) (n : Int) :
    Calls Tryz.prog 219 #[.pointer (some ⟨t, 0, none⟩), .int .i64 n] w fun e w' => e = .returned (.tuple #[.int .i64 0, .bool false]) ∧ w = w' := by
  have hp := place_none h hr n
  obtain ⟨r, g, m, iv, h⟩ := h
  have hi := h.ids
  rw [hr] at hi
  obtain ⟨A, cap, rfl⟩ := row_any hi
  have c2 := h.own.1.cell 2
  clear h hr hi
  go_enter Tryz.func219, Tryz.ntmps219
  go_wp2_with (fail)
  refine hp.mono ?_
  rintro e w' ⟨rfl, rfl⟩
  clear hp
  go_wp2
  go_ret2
  exact ⟨rfl, rfl⟩

theorem dispStep_none {χ : Col} {cp c cr t d p q x a : Nat} {T : TapeM} {w : World} (hd : IsDisp χ cp w p t q x a) (h : IsTape χ c cr w t d T) (hr : T.recs = []) :
    Calls Tryz.prog 171 #[.pointer (some ⟨p, 0, none⟩)] w fun e w' => e = .returned (.tuple #[.bool false, .int .i64 0]) ∧ Below w.heap.size w w' := by
  have hN := Next_none h.drew hr (a : Int)
  have e0 : w.drew.cell? ⟨p, 0, none⟩ = some (.pointer (some ⟨t, 0, none⟩)) ∧ w.drew.cell? ⟨p, 3, none⟩ = some (.int .i64 a) := ⟨hd.1.cell 0, hd.1.cell 3⟩
  clear h hr hd
  go_enter Tryz.func171, Tryz.ntmps171
  go_upto_region 3 with (fail)
  refine wp_region_held_drew (S := fun w' => w'.cell? ⟨p, 0, none⟩ = some (.pointer (some ⟨t, 0, none⟩)) ∧ w'.cell? ⟨p, 3, none⟩ = some (.int .i64 a)) (by kernel_rfl) e0 (fun hHeld => ?_)
  refine wpAnyH_take (i := 0) (oi := ⟨some 12, _, _, _, _, _⟩) (v := ?_) rfl (by kernel_rfl) (by kernel_rfl) (by kernel_rfl) (fun _ _ _ h => h) (Or.inl ⟨by rfl, (by intro w hSw; (try dsimp only at hSw); go_simp; try with_reducible rfl)⟩) hHeld ?_
  try simp only [Act.put, List.setIfInBounds_toArray, List.set_cons_zero, List.set_cons_succ]
  refine wpAnyH_take (i := 1) (oi := ⟨some 13, _, _, _, _, _⟩) (v := ?_) rfl (by kernel_rfl) (by kernel_rfl) (by kernel_rfl) (fun _ _ _ h => h) (Or.inl ⟨by rfl, (by intro w hSw; (try dsimp only at hSw); go_simp; try with_reducible rfl)⟩) hHeld ?_
  try simp only [Act.put, List.setIfInBounds_toArray, List.set_cons_zero, List.set_cons_succ]
  refine wpAnyH_take (i := 2) (oi := ⟨some 14, _, _, _, _, _⟩) (v := ?_) rfl (by kernel_rfl) (by kernel_rfl) (by kernel_rfl) (fun _ _ _ h => h) (Or.inl ⟨by rfl, (by intro w hSw; (try dsimp only at hSw); go_simp; try with_reducible rfl)⟩) hHeld ?_
  try simp only [Act.put, List.setIfInBounds_toArray, List.set_cons_zero, List.set_cons_succ]
  refine wpAnyH_take (i := 3) (oi := ⟨some 15, _, _, _, _, _⟩) (v := ?_) rfl (by kernel_rfl) (by kernel_rfl) (by kernel_rfl) (fun _ _ _ h => h) (Or.inl ⟨by rfl, (by intro w hSw; (try dsimp only at hSw); go_simp; try with_reducible rfl)⟩) hHeld ?_
  try simp only [Act.put, List.setIfInBounds_toArray, List.set_cons_zero, List.set_cons_succ]
  refine wpAnyH_take (i := 4) (oi := ⟨some 16, _, _, _, _, _⟩) (v := ?_) rfl (by kernel_rfl) (by kernel_rfl) (by kernel_rfl) (fun _ _ _ h => h) (Or.inl ⟨by rfl, (by intro w hSw; (try dsimp only at hSw); go_simp; try with_reducible rfl)⟩) hHeld ?_
  try simp only [Act.put, List.setIfInBounds_toArray, List.set_cons_zero, List.set_cons_succ]
  refine wpAnyH_take (i := 5) (oi := ⟨some 17, _, _, _, _, _⟩) (v := ?_) rfl (by kernel_rfl) (by kernel_rfl) (by kernel_rfl) (fun _ _ _ h => h) (Or.inl ⟨by rfl, (by intro w hSw; (try dsimp only at hSw); go_simp; try with_reducible rfl)⟩) hHeld ?_
  try simp only [Act.put, List.setIfInBounds_toArray, List.set_cons_zero, List.set_cons_succ]
  refine wpAnyH_take (i := 6) (oi := ⟨some 18, _, _, _, _, _⟩) (v := ?_) rfl (by kernel_rfl) (by kernel_rfl) (by kernel_rfl) (fun _ _ _ h => h) (Or.inl ⟨by rfl, (by intro w hSw; (try dsimp only at hSw); go_simp; try with_reducible rfl)⟩) hHeld ?_
  try simp only [Act.put, List.setIfInBounds_toArray, List.set_cons_zero, List.set_cons_succ]
  refine wpAnyH_take (i := 7) (oi := ⟨some 19, _, _, _, _, _⟩) (v := ?_) rfl (by kernel_rfl) (by kernel_rfl) (by kernel_rfl) (fun _ _ _ h => h) (Or.inl ⟨by rfl, (by intro w hSw; (try dsimp only at hSw); go_simp; try with_reducible rfl)⟩) hHeld ?_
  try simp only [Act.put, List.setIfInBounds_toArray, List.set_cons_zero, List.set_cons_succ]
  refine wpAnyH_ready (rs := [8]) (by kernel_rfl) (by simp) ?_
  refine AllReadyH.cons (o := ⟨some 20, _, _, _, _, _⟩) rfl (fun K hK => ?_) AllReadyH.nil
  go_simp
  refine hN.mono ?_
  rintro e w' ⟨rfl, rfl⟩
  have hS2 := hHeld
  refine hK.out _ _ hS2 (fun hHeld => ?_)
  clear hK K
  try simp only [Act.put, List.setIfInBounds_toArray, List.set_cons_zero, List.set_cons_succ]
  refine wpAnyH_take (i := 9) (oi := ⟨some 11, _, _, _, _, _⟩) (v := ?_) rfl (by kernel_rfl) (by kernel_rfl) (by kernel_rfl) (fun _ _ _ h => h) (Or.inl ⟨by rfl, (by intro w hSw; (try dsimp only at hSw); go_simp; try with_reducible rfl)⟩) hHeld ?_
  try simp only [Act.put, List.setIfInBounds_toArray, List.set_cons_zero, List.set_cons_succ]
  refine wpAnyH_take (i := 10) (oi := ⟨some 21, _, _, _, _, _⟩) (v := ?_) rfl (by kernel_rfl) (by kernel_rfl) (by kernel_rfl) (fun _ _ _ h => h) (Or.inl ⟨by rfl, (by intro w hSw; (try dsimp only at hSw); go_simp; try with_reducible rfl)⟩) hHeld ?_
  try simp only [Act.put, List.setIfInBounds_toArray, List.set_cons_zero, List.set_cons_succ]
  refine wpAnyH_take (i := 11) (oi := ⟨some 22, _, _, _, _, _⟩) (v := ?_) rfl (by kernel_rfl) (by kernel_rfl) (by kernel_rfl) (fun _ _ _ h => h) (Or.inl ⟨by rfl, (by intro w hSw; (try dsimp only at hSw); go_simp; try with_reducible rfl)⟩) hHeld ?_
  try simp only [Act.put, List.setIfInBounds_toArray, List.set_cons_zero, List.set_cons_succ]
  refine wpAnyH_take (i := 12) (oi := ⟨some 4, _, _, _, _, _⟩) (v := ?_) rfl (by kernel_rfl) (by kernel_rfl) (by kernel_rfl) (fun _ _ _ h => h) (Or.inl ⟨by rfl, (by intro w hSw; (try dsimp only at hSw); go_simp; try with_reducible rfl)⟩) hHeld ?_
  try simp only [Act.put, List.setIfInBounds_toArray, List.set_cons_zero, List.set_cons_succ]
  refine wpAnyH_take (i := 13) (oi := ⟨some 5, _, _, _, _, _⟩) (v := ?_) rfl (by kernel_rfl) (by kernel_rfl) (by kernel_rfl) (fun _ _ _ h => h) (Or.inl ⟨by rfl, (by intro w hSw; (try dsimp only at hSw); go_simp; try with_reducible rfl)⟩) hHeld ?_
  try simp only [Act.put, List.setIfInBounds_toArray, List.set_cons_zero, List.set_cons_succ]
  refine wpAnyH_done (by kernel_rfl) ?_ _
  go_wp2
  go_ret2
  exact ⟨rfl, (Below.refl _ _).drew⟩

theorem dispAll_none {χ : Col} {cp c cr t d p q x a : Nat} {T : TapeM} {w : World} (hd : IsDisp χ cp w p t q x a) (h : IsTape χ c cr w t d T) (hr : T.recs = []) :
    Calls Tryz.prog 108 #[.pointer (some ⟨p, 0, none⟩)] w fun e w' => e = .returned (.tuple #[.int .i64 0, .int .i64 0]) ∧ Below w.heap.size w w' := by
  have hS := dispStep_none hd h hr
  clear h hr hd
  go_enter Tryz.func108, Tryz.ntmps108
  go_wp2
  refine wp_loop_rounds 1 ?_
  rw [rounds_succ]
  go_wp2_with (fail)
  refine hS.mono ?_
  rintro e w' ⟨rfl, hb⟩
  go_wp2
  go_ret2
  exact ⟨rfl, hb⟩

end Go.Proofs.YtnacjogdndggeaaGreatDoor
end

section
namespace Go.Proofs.YtnacjogdndggeaaGreatDoor
open Go.Shelf Go.RowKit Go.Lib
set_option maxRecDepth 100000
set_option maxHeartbeats 1000000

theorem Late_none {χ : Col} {c p t q x a : Nat} {w : World} (h : IsEnq χ c w p t q x a) :
    Calls Tryz.prog 111 #[.pointer (some ⟨p, 0, none⟩)] w fun e w' => e = .returned (.slice none 0 0) ∧ Stp (· = c) χ w χ w' ∧ IsEnq χ c w' p t q x a := by
  have c4 := h.1.cell 4
  have f4 := h.1.frozen 4
  have H := Lib.hid h
  clear h
  go_enter Tryz.func111, Tryz.ntmps111
  go_wp2
  go_ret
  exact ⟨rfl, (Stp.refl (· = c) χ w).set (p := ⟨p, 4, none⟩) (.inl H.out.2) _, H.out.1.set 4 (.slice none 0 0), H.out.2⟩

end Go.Proofs.YtnacjogdndggeaaGreatDoor
end
