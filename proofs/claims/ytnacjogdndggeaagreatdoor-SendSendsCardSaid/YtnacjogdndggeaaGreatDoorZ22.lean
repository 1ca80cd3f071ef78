/- Plain facts on a disk behind a text that was saved whole. Layer 5 (seg): Open over a disk that bears nothing of the row's name. Layer 8 (tape): Open over a disk without a tape; End, Begin, Sync. Layer 10 (cq): New over a disk without queues. -/
import Derived.Test.YtnacjogdndggeaaGreatDoorZ11
import Derived.Test.YtnacjogdndggeaaGreatDoorZ10
import Derived.Test.YtnacjogdndggeaaGreatDoorZ21
import Derived.Test.YtnacjogdndggeaaGreatDoorZ16
import Derived.Test.YtnacjogdndggeaaGreatDoorZ08
section
namespace Go.Proofs.YtnacjogdndggeaaGreatDoor

namespace Dsk
theorem names_nil {D : Dsk} {head : List UInt8} : D.names head = [] ↔ ∀ n, (D.file n).isSome = true → head.isPrefixOf n = false := by
  unfold names file
  rw [List.filter_eq_nil_iff]
  constructor
  · intro h n hn
    cases hf : aget D.files n with
    | none => rw [hf] at hn; cases hn
    | some f =>
      exact Bool.eq_false_iff.2 (h n (List.mem_map.2 ⟨_, aget_mem hf, rfl⟩))
  · intro h n hn
    obtain ⟨p, hp, rfl⟩ := List.mem_map.1 hn
    have : (aget D.files p.1).isSome = true := by
      cases hf : aget D.files p.1 with
      | some f => rfl
      | none => exact absurd rfl (aget_none.1 hf p hp)
    simp [h p.1 this]
theorem names_save {D : Dsk} {n x head : List UInt8} (h : D.names head = []) (h1 : head.isPrefixOf n = false) : (D.save n x).names head = [] :=
  names_nil.2 fun m hm => by
    rw [file_save] at hm
    by_cases e1 : m = n ++ newL
    · rw [if_pos e1] at hm; cases hm
    · rw [if_neg e1] at hm
      by_cases e2 : m = n
      · rw [e2]; exact h1
      · rw [if_neg e2] at hm
        exact names_nil.1 h m hm
theorem names_file {D : Dsk} {n : List UInt8} (h : D.names n = []) : D.file n = none := by
  cases hf : D.file n with
  | none => rfl
  | some f =>
    have := names_nil.1 h n (by rw [hf]; rfl)
    rw [List.isPrefixOf_iff_prefix.2 (List.prefix_refl n)] at this
    cases this
theorem length_adel {α : Type} (k : List UInt8) (l : List (List UInt8 × α)) : (adel k l).length ≤ l.length := List.length_filter_le _ _
theorem length_ains' {α : Type} (x : List UInt8 × α) : ∀ l : List (List UInt8 × α), (ains Lit.string x l).length = l.length + 1
  | [] => rfl
  | y :: l => by
    unfold ains
    split <;> simp [length_ains' x l]
theorem length_aput {α : Type} (k : List UInt8) (a : α) (l : List (List UInt8 × α)) : (aput Lit.string k a l).length ≤ l.length + 1 := by
  unfold aput
  rw [length_ains']
  have := length_adel k l
  omega
theorem length_create (D : Dsk) (n : List UInt8) : (D.create n).files.length ≤ D.files.length + 1 := length_aput _ _ _
theorem length_write (D : Dsk) (n : List UInt8) (k : Nat) (s : List UInt8) : (D.write n k s).files.length ≤ D.files.length := by
  unfold write
  split
  · exact Nat.le_refl _
  · split
    · exact Nat.le_refl _
    · simp [amod]
theorem length_last1 (D : Dsk) (n : List UInt8) : (D.last1 n).files.length ≤ D.files.length := by
  unfold last1
  split
  · exact Nat.le_refl _
  · simp [amod]
theorem length_rename (D : Dsk) (a b : List UInt8) : (D.rename a b).files.length ≤ D.files.length + 1 := by
  unfold rename
  split
  · omega
  · split
    · omega
    · refine Nat.le_trans (length_adel _ _) ?_
      refine Nat.le_trans (length_aput _ _ _) ?_
      have := length_adel b D.files
      unfold drop1
      simp only
      omega
theorem length_save (D : Dsk) (n x : List UInt8) : (D.save n x).files.length ≤ D.files.length + 2 := by
  unfold save
  refine Nat.le_trans (length_rename _ _ _) ?_
  have h1 := length_last1 ((D.create (n ++ newL)).write (n ++ newL) 0 x) (n ++ newL)
  have h2 := length_write (D.create (n ++ newL)) (n ++ newL) 0 x
  have h3 := length_create D (n ++ newL)
  have h4 : (((D.create (n ++ newL)).write (n ++ newL) 0 x).sync [n ++ newL]).files.length = (((D.create (n ++ newL)).write (n ++ newL) 0 x).last1 (n ++ newL)).files.length := rfl
  omega
end Dsk

theorem RowM.On.save {R : RowM} {D : Dsk} {n x : List UInt8} (h : R.On D) (hn : ∀ i, R.name i ≠ n ∧ R.name i ≠ n ++ newL) : R.On (D.save n x) where
  ok := h.ok
  there := fun i hi => by
    obtain ⟨f, h1, h2⟩ := h.there i hi
    exact ⟨f, by rw [Dsk.file_save, if_neg (hn i).2, if_neg (hn i).1]; exact h1, h2⟩
  none := fun i hi => by
    rw [Dsk.file_save, if_neg (hn i).2, if_neg (hn i).1]
    exact h.none i hi

end Go.Proofs.YtnacjogdndggeaaGreatDoor
end

section
namespace Go.Proofs.YtnacjogdndggeaaGreatDoor
open Go.Shelf Go.RowKit Go.Lib
set_option maxRecDepth 100000
set_option maxHeartbeats 1000000

theorem found_none {χ : Col} {c cd r d : Nat} {R : RowM} {D : Dsk} {w : World} (h : IsRow χ c w r d R) (hd : IsDk χ cd w d D) (hn : D.names R.head = []) (hN : D.files.length ≤ 1000000000) :
    Calls Tryz.prog 212 #[.pointer (some ⟨r, 0, none⟩)] w fun e w' => e = .returned (.slice none 0 0) ∧ Below w.heap.size w w' := by
  have hL := fun {W : World} (hd : IsDk χ cd W d D) => DList_any hd R.head hN
  rw [hn] at hL
  have HI := Lib.hid h
  have HD := Lib.hid hd
  obtain ⟨pv, h⟩ := h
  have e0 : w.drew.cell? ⟨r, 0, none⟩ = some (.pointer (some ⟨d, 0, none⟩)) ∧ w.drew.cell? ⟨r, 1, none⟩ = some (.string (S R.head)) := ⟨h.own.1.cell 0, h.own.1.cell 1⟩
  clear h hd
  go_enter Tryz.func212, Tryz.ntmps212
  go_upto_region 3 with (fail)
  refine wp_region_held_drew (S := fun w' => w'.cell? ⟨r, 0, none⟩ = some (.pointer (some ⟨d, 0, none⟩)) ∧ w'.cell? ⟨r, 1, none⟩ = some (.string (S R.head))) (by kernel_rfl) e0 (fun hHeld => ?_)
  have HD1 := Lib.hid HD.out.drew
  refine wpAnyH_take (i := 0) (oi := ⟨some 11, _, _, _, _, _⟩) (v := ?_) rfl (by kernel_rfl) (by kernel_rfl) (by kernel_rfl) (fun _ _ _ h => h) (Or.inl ⟨by rfl, (by intro w hSw; (try dsimp only at hSw); go_simp; try with_reducible rfl)⟩) hHeld ?_
  try simp only [Act.put, List.setIfInBounds_toArray, List.set_cons_zero, List.set_cons_succ]
  refine wpAnyH_take (i := 1) (oi := ⟨some 12, _, _, _, _, _⟩) (v := ?_) rfl (by kernel_rfl) (by kernel_rfl) (by kernel_rfl) (fun _ _ _ h => h) (Or.inl ⟨by rfl, (by intro w hSw; (try dsimp only at hSw); go_simp; try with_reducible rfl)⟩) hHeld ?_
  try simp only [Act.put, List.setIfInBounds_toArray, List.set_cons_zero, List.set_cons_succ]
  refine wpAnyH_take (i := 2) (oi := ⟨some 13, _, _, _, _, _⟩) (v := ?_) rfl (by kernel_rfl) (by kernel_rfl) (by kernel_rfl) (fun _ _ _ h => h) (Or.inl ⟨by rfl, (by intro w hSw; (try dsimp only at hSw); go_simp; try with_reducible rfl)⟩) hHeld ?_
  try simp only [Act.put, List.setIfInBounds_toArray, List.set_cons_zero, List.set_cons_succ]
  refine wpAnyH_take (i := 3) (oi := ⟨some 14, _, _, _, _, _⟩) (v := ?_) rfl (by kernel_rfl) (by kernel_rfl) (by kernel_rfl) (fun _ _ _ h => h) (Or.inl ⟨by rfl, (by intro w hSw; (try dsimp only at hSw); go_simp; try with_reducible rfl)⟩) hHeld ?_
  try simp only [Act.put, List.setIfInBounds_toArray, List.set_cons_zero, List.set_cons_succ]
  refine wpAnyH_take (i := 4) (oi := ⟨some 15, _, _, _, _, _⟩) (v := ?_) rfl (by kernel_rfl) (by kernel_rfl) (by kernel_rfl) (fun _ _ _ h => h) (Or.inl ⟨by rfl, (by intro w hSw; (try dsimp only at hSw); go_simp; try with_reducible rfl)⟩) hHeld ?_
  try simp only [Act.put, List.setIfInBounds_toArray, List.set_cons_zero, List.set_cons_succ]
  refine wpAnyH_take (i := 5) (oi := ⟨some 16, _, _, _, _, _⟩) (v := ?_) rfl (by kernel_rfl) (by kernel_rfl) (by kernel_rfl) (fun _ _ _ h => h) (Or.inl ⟨by rfl, (by intro w hSw; (try dsimp only at hSw); go_simp; try with_reducible rfl)⟩) hHeld ?_
  try simp only [Act.put, List.setIfInBounds_toArray, List.set_cons_zero, List.set_cons_succ]
  refine wpAnyH_take (i := 6) (oi := ⟨some 17, _, _, _, _, _⟩) (v := ?_) rfl (by kernel_rfl) (by kernel_rfl) (by kernel_rfl) (fun _ _ _ h => h) (Or.inl ⟨by rfl, (by intro w hSw; (try dsimp only at hSw); go_simp; try with_reducible rfl)⟩) hHeld ?_
  try simp only [Act.put, List.setIfInBounds_toArray, List.set_cons_zero, List.set_cons_succ]
  refine wpAnyH_take (i := 7) (oi := ⟨some 18, _, _, _, _, _⟩) (v := ?_) rfl (by kernel_rfl) (by kernel_rfl) (by kernel_rfl) (fun _ _ _ h => h) (Or.inl ⟨by rfl, (by intro w hSw; (try dsimp only at hSw); go_simp; try with_reducible rfl)⟩) hHeld ?_
  try simp only [Act.put, List.setIfInBounds_toArray, List.set_cons_zero, List.set_cons_succ]
  refine wpAnyH_take (i := 10) (oi := ⟨some 21, _, _, _, _, _⟩) (v := ?_) rfl (by kernel_rfl) (by kernel_rfl) (by kernel_rfl) (fun _ _ _ h => h) (Or.inl ⟨by rfl, (by intro w hSw; (try dsimp only at hSw); go_simp; try with_reducible rfl)⟩) hHeld ?_
  try simp only [Act.put, List.setIfInBounds_toArray, List.set_cons_zero, List.set_cons_succ]
  refine wpAnyH_ready (rs := [8]) (by kernel_rfl) (by simp) ?_
  refine AllReadyH.cons (o := ⟨some 19, _, _, _, _, _⟩) rfl (fun K hK => ?_) AllReadyH.nil
  go_simp
  refine (hL HD1.out).mono ?_
  rintro e w2 ⟨v, rfl, hv, hb⟩
  have hS2 := And.intro ((hb.cell (p := ⟨r, 0, none⟩) HI.out.lt).trans hHeld.1) ((hb.cell (p := ⟨r, 1, none⟩) HI.out.lt).trans hHeld.2)
  obtain ⟨A, cap, rfl⟩ := row_any hv
  refine hK.out _ _ hS2 (fun hHeld => ?_)
  clear hK K
  try simp only [Act.put, List.setIfInBounds_toArray, List.set_cons_zero, List.set_cons_succ]
  refine wpAnyH_take (i := 9) (oi := ⟨some 20, _, _, _, _, _⟩) (v := ?_) rfl (by kernel_rfl) (by kernel_rfl) (by kernel_rfl) (fun _ _ _ h => h) (Or.inl ⟨by rfl, (by intro w hSw; (try dsimp only at hSw); go_simp; try with_reducible rfl)⟩) hHeld ?_
  try simp only [Act.put, List.setIfInBounds_toArray, List.set_cons_zero, List.set_cons_succ]
  refine wpAnyH_done (by kernel_rfl) ?_ _
  have HB := Lib.hid ((below_drewN w 1).trans (hb.mono (Nat.le_refl _)))
  clear hb hv hS2 hL
  go_wp2
  refine wp_loop_rounds 1 ?_
  rw [rounds_succ]
  go_wp2
  go_ret
  exact ⟨rfl, HB.out⟩

theorem Open_none {χ : Col} {cd d : Nat} {D : Dsk} {w : World} (c : Nat) (head : List UInt8) (size : Nat) (hd : IsDk χ cd w d D) (hn : D.names head = []) (hN : D.files.length ≤ 1000000000) (h16 : 16 ≤ size) (h4 : size ≤ 4096) :
    Calls Tryz.prog 158 #[.pointer (some ⟨d, 0, none⟩), .string (S head), .int .i64 size] w fun e w' => ∃ r χ', e = .returned (.tuple #[.pointer (some ⟨r, 0, none⟩), .int .i64 0]) ∧ Stp (fun _ => False) χ w χ' w' ∧ IsRow χ' c w' r d ⟨head, size, 0, [], 0, 0⟩ := by
  have hDn := Down_any hd
  have i1 : ¬ (size : Int) < 16 := by omega
  have i2 : ¬ (4096 : Int) < size := by omega
  have i3 : ¬ size < 16 := by omega
  have i4 : ¬ 4096 < size := by omega
  have HB := Lib.hid ((Below.refl w.heap.size w).alloc (Nat.le_refl _) (.cells #[.pointer (some ⟨d, 0, none⟩), .string (S head), .int .i64 size, .slice none 0 0, .int .i64 0, .int .i64 0] 129))
  have HI := Lib.hid (show IsRow (paint χ w.heap.size c) c (w.alloc (.cells #[.pointer (some ⟨d, 0, none⟩), .string (S head), .int .i64 size, .slice none 0 0, .int .i64 0, .int .i64 0] 129)) w.heap.size d ⟨head, size, 0, [], 0, 0⟩ from
    ⟨.slice none 0 0, ⟨Blk.new w _ _, paint_new (Nat.le_refl _)⟩, World.ownsRow_nil .., fun g hg => by cases hg⟩)
  have HS := Lib.hid ((Stp.of_below (C := fun _ => False) (χ := χ) HB.out).paint (Nat.le_refl _) c)
  have HD := Lib.hid (hd.stp HS.out (fun h => h))
  have hF := found_none HI.out HD.out hn hN
  have hBg := fun {W : World} (h : IsRow (paint χ w.heap.size c) c W w.heap.size d ⟨head, size, 0, [], 0, 0⟩) => Begin_any h (fun _ => rfl)
  clear hd
  go_enter Tryz.func158, Tryz.ntmps158
  go_wp2_with (fail)
  refine hDn.mono ?_
  rintro e w' ⟨rfl, rfl⟩
  clear hDn
  go_wp2_with (fail)
  refine hF.mono ?_
  rintro e w2 ⟨rfl, hb⟩
  have HI2 := Lib.hid (HI.out.below hb)
  have HB2 := Lib.hid (HB.out.trans (hb.mono (by simp)))
  clear hF hb HI HD HB
  go_wp2_with (fail)
  refine (hBg HI2.out).mono ?_
  rintro e w' ⟨rfl, rfl⟩
  obtain ⟨pv, h2⟩ := HI2.out
  have c5 := h2.own.1.cell 5
  have f5 := h2.own.1.frozen 5
  have H2 := Lib.hid h2
  clear h2 hBg HI2
  go_wp2_with (fail)
  go_ret2
  exact ⟨_, _, rfl, ((Stp.of_below (C := fun _ => False) (χ := χ) HB2.out).paint (Nat.le_refl _) c).set (p := ⟨w.heap.size, 5, none⟩) (.inr (Nat.le_refl _)) _, pv, H2.out.setSynced⟩

end Go.Proofs.YtnacjogdndggeaaGreatDoor
end

section
namespace Go.Proofs.YtnacjogdndggeaaGreatDoor
open Go.Shelf Go.RowKit Go.Lib
set_option maxRecDepth 100000
set_option maxHeartbeats 1000000

theorem scan_none {χ : Col} {c cr t d : Nat} {T : TapeM} {w : World} (h : IsTape χ c cr w t d T) (hz : T.row.begin = 0) (hf : T.row.fin = 0) :
    Calls Tryz.prog 159 #[.pointer (some ⟨t, 0, none⟩)] w fun e w' => e = .returned (.int .i64 0) ∧ w = w' := by
  obtain ⟨r, g, m, iv, h⟩ := h
  have hB := Begin_any h.row (fun _ => hz)
  have hE := End_row h.row
  rw [hz] at hB
  rw [hf] at hE
  have c0 := h.own.1.cell 0
  clear h hz hf
  go_enter Tryz.func159, Tryz.ntmps159
  go_wp2_with (fail)
  refine hB.mono ?_
  rintro e w' ⟨rfl, rfl⟩
  clear hB
  go_wp2
  refine wp_loop_rounds 1 ?_
  rw [rounds_succ]
  go_wp2_with (fail)
  refine hE.mono ?_
  rintro e w' ⟨rfl, rfl⟩
  clear hE
  go_wp2
  go_ret
  exact ⟨rfl, rfl⟩

theorem TapeAt.withRow {C : Nat → Prop} {χ χ' : Col} {c cr t d : Nat} {w w' : World} {T : TapeM} {r g m : Nat} {iv : Value} {R' : RowM} (h : TapeAt χ c cr w t d T r g m iv) (s : Stp C χ w χ' w') (hc : ¬ C c) (hr : IsRow χ' cr w' r d R') :
    TapeAt χ' c cr w' t d { T with row := R' } r g m iv where
  own := h.own.stp s hc
  row := hr
  tab := Blk.stp h.tab s (by rw [h.ctab]; exact hc)
  ctab := (s.col _ (Blk.lt h.tab)).trans h.ctab
  ids := ownsRow_stp h.ids s fun b hb => by rw [h.cids b hb]; exact hc
  cids := fun b hb => (s.col _ (h.ids.lt b hb).2).trans (h.cids b hb)
  map := ownsMap_stp h.map s (by rw [h.cmap]; exact hc)
  cmap := (s.col _ h.map.lt).trans h.cmap

/-- A tape that bears nothing. -/
def tape0 : TapeM := ⟨⟨tapeHead, 1024, 0, [], 0, 0⟩, [], 0⟩

theorem file_mem {D : Dsk} {n : List UInt8} {f : FileC} (h : D.file n = some f) : n ∈ D.files.map (·.1) := List.mem_map.2 ⟨_, aget_mem h, rfl⟩
theorem names_none {D : Dsk} {head : List UInt8} (h : D.names head = []) (n : Nat) : D.file (segName head n) = none := by
  cases hf : D.file (segName head n) with
  | none => rfl
  | some f =>
    exfalso
    have hm : segName head n ∈ D.names head := by
      unfold Dsk.names
      refine List.mem_filter.2 ⟨file_mem hf, ?_⟩
      rw [List.isPrefixOf_iff_prefix]
      exact List.prefix_append _ _
    rw [h] at hm
    cases hm
theorem row0_on {D : Dsk} {head : List UInt8} {size : Nat} (h : D.names head = []) (h16 : 16 ≤ size) (h4 : size ≤ 4096) (hh : head.length ≤ 100) : RowM.On ⟨head, size, 0, [], 0, 0⟩ D := by
  refine ⟨⟨⟨h16, h4⟩, by simp, by simp, fun h => by simp at h, by simp [RowM.fin], by simp [RowM.fin], hh, Nat.le_refl _, fun _ => rfl⟩, fun i hi => by simp at hi, fun i _ => names_none h _⟩

theorem TapeOpen_none {χ : Col} {cd d : Nat} {D : Dsk} {w : World} (c cr : Nat) (hcd : cr ≠ cd) (hcc : c ≠ cr) (hcc2 : c ≠ cd) (h0 : cr ≠ 0) (h1 : cd ≠ 0) (hd : IsDk χ cd w d D) (ht : Tab χ w) (hn : D.names tapeHead = []) (hN : D.files.length ≤ 1000000000) (hW : D.waits.length ≤ 1000000000) :
    Calls Tryz.prog 95 #[.pointer (some ⟨d, 0, none⟩)] w fun e w' => ∃ t χ', e = .returned (.tuple #[.pointer (some ⟨t, 0, none⟩), .int .i64 0]) ∧ Stp (fun k => k = cr ∨ k = cd) χ w χ' w' ∧ IsTape χ' c cr w' t d tape0 ∧ IsDk χ' cd w' d D := by
  have hO := Open_none cr tapeHead 1024 hd hn hN (by omega) (by omega)
  have HD := Lib.hid hd
  have HT := Lib.hid ht
  have hmm := @run_makeMap Tryz.prog
  clear hd ht
  go_enter Tryz.func95, Tryz.ntmps95
  go_wp2_with (fail)
  refine hO.mono ?_
  rintro e w1 ⟨r, χ1, rfl, s1, hr1⟩
  have HS1 := Lib.hid s1
  have HR1 := Lib.hid hr1
  clear hO s1 hr1
  go_wp2_with (fail)
  refine (crcNew_any w1).mono ?_
  rintro e w2 ⟨rfl, htab, hb2⟩
  have hg : w1.heap.size < w2.heap.size := Blk.lt htab
  have HB2 := Lib.hid hb2
  have HTB := Lib.hid htab
  go_wp2_with (fail)
  have hB3 := ((Below.refl w2.heap.size w2).alloc (Nat.le_refl _) (.map #[] 0)).alloc (by simp) (.cells #[.pointer (some ⟨r, 0, none⟩), .pointer (some ⟨w1.heap.size, 0, none⟩), .slice none 0 0, .map (some w2.heap.size), .int .i64 0] 87)
  have S3 := Lib.hid ((Stp.of_below (C := fun _ => False) (χ := χ1) (HB2.out.trans (hB3.mono HB2.out.size))).paint (Nat.le_refl _) c)
  have own3 := Blk.new (w2.alloc (.map #[] 0)) #[.pointer (some ⟨r, 0, none⟩), .pointer (some ⟨w1.heap.size, 0, none⟩), .slice none 0 0, .map (some w2.heap.size), .int .i64 0] 87
  have hs2 : (w2.alloc (.map #[] 0)).heap.size = w2.heap.size + 1 := by simp
  rw [hs2] at own3
  have tab3 : IsTab w1.heap.size _ := Blk.below htab hB3
  have row3 := HR1.out.stp S3.out (fun h => h)
  have hT3 : TapeAt (paint χ1 w1.heap.size c) c cr _ (w2.heap.size + 1) d tape0 r w1.heap.size w2.heap.size (.slice none 0 0) := {
    own := ⟨own3, paint_new (by omega)⟩
    row := row3
    tab := tab3
    ctab := paint_new (Nat.le_refl _)
    ids := World.ownsRow_nil _ _ _ _
    cids := fun b hb => by cases hb
    map := (World.ownsMap_made w2 Tryz.prog 3 (plainElem Tryz.prog 3)).alloc _
    cmap := paint_new (by omega) }
  have hsc := scan_none ⟨_, _, _, _, hT3⟩ rfl rfl
  have hEn := fun {W : World} (h : IsRow (paint χ1 w1.heap.size c) cr W r d tape0.row) => End_row h
  have HS3 := Lib.hid ((HS1.out.trans S3.out).mono (C' := fun k => k = cr ∨ k = cd) fun k hk => hk.elim)
  have HD3 := Lib.hid (HD.out.stp (C := fun _ => False) (HS1.out.trans S3.out) (fun h => h))
  have HT3 := Lib.hid (HT.out.stp (C := fun _ => False) (HS1.out.trans S3.out) (fun h => h))
  have H3 := Lib.hid hT3
  have HROW := Lib.hid row3
  clear HS1 S3 HD HT HR1 htab hb2 HB2 HTB own3 tab3 row3 hT3 hB3
  refine hsc.mono ?_
  rintro e w' ⟨rfl, rfl⟩
  clear hsc
  go_wp2_with (fail)
  refine (hEn HROW.out).mono ?_
  rintro e w' ⟨rfl, rfl⟩
  clear hEn
  go_wp2_with (fail)
  have hon := row0_on (size := 1024) hn (by omega) (by omega) (by decide)
  refine (Sync_row HROW.out HD3.out hon HT3.out hcd hW (by simp)).mono ?_
  rintro e w5 ⟨rfl, χ5, s5, hr5, hd5⟩
  go_wp2
  go_ret2
  refine ⟨_, χ5, rfl, HS3.out.trans s5, ⟨r, w1.heap.size, w2.heap.size, .slice none 0 0, ?_⟩, ?_⟩
  · have hsy : RowM.synced' ⟨tapeHead, 1024, 0, [], 0, 0⟩ = ⟨tapeHead, 1024, 0, [], 0, 0⟩ := if_pos rfl
    rw [hsy] at hr5
    exact H3.out.withRow s5 (by omega) hr5
  · exact hd5

end Go.Proofs.YtnacjogdndggeaaGreatDoor
end

section
namespace Go.Proofs.YtnacjogdndggeaaGreatDoor
open Go.Shelf Go.RowKit Go.Lib
set_option maxRecDepth 100000
set_option maxHeartbeats 1000000

/-- Queues that have no entries yet. -/
structure Qs0At (χ : Col) (c : Nat) (w : World) (q d m : Nat) : Prop where
  own : CBlk χ c w q #[.pointer (some ⟨d, 0, none⟩), .map (some m)] 236
  map : w.ownsMap Tryz.prog 247 Rp m 0 (.map [])
  cmap : χ m = c
def IsQs0 (χ : Col) (c : Nat) (w : World) (q d : Nat) : Prop := ∃ m, Qs0At χ c w q d m
theorem IsQs0.stp {C : Nat → Prop} {χ χ' : Col} {c q d : Nat} {w w' : World} (h : IsQs0 χ c w q d) (s : Stp C χ w χ' w') (hc : ¬ C c) : IsQs0 χ' c w' q d := by
  obtain ⟨m, h⟩ := h
  exact ⟨m, h.own.stp s hc, ownsMap_stp h.map s (by rw [h.cmap]; exact hc), (s.col _ h.map.lt).trans h.cmap⟩

theorem cqNew_any {χ : Col} {cd d : Nat} {D : Dsk} {w : World} (c : Nat) (hd : IsDk χ cd w d D) (hn : D.names [113, 45] = []) (hN : D.files.length ≤ 1000000000) :
    Calls Tryz.prog 101 #[.pointer (some ⟨d, 0, none⟩)] w fun e w' => ∃ q χ', e = .returned (.tuple #[.pointer (some ⟨q, 0, none⟩), .int .i64 0]) ∧ Stp (fun _ => False) χ w χ' w' ∧ IsQs0 χ' c w' q d := by
  have hL := DList_any hd [113, 45] hN
  rw [hn] at hL
  have hmm := @run_makeMap Tryz.prog
  clear hd
  go_enter Tryz.func101, Tryz.ntmps101
  go_wp2_with (fail)
  refine hL.mono ?_
  rintro e w1 ⟨v, rfl, hv, hb⟩
  obtain ⟨A, cap, rfl⟩ := row_any hv
  clear hL hv
  have HB := Lib.hid hb
  clear hb
  go_wp2_with (fail)
  go_ret2
  have hs : (w1.alloc (.map #[] 0)).heap.size = w1.heap.size + 1 := by simp
  have hb := Blk.new (w1.alloc (.map #[] 0)) #[.pointer (some ⟨d, 0, none⟩), .map (some w1.heap.size)] 236
  rw [hs] at hb
  have hB := ((Below.refl w1.heap.size w1).alloc (Nat.le_refl _) (.map #[] 0)).alloc (by simp) (.cells #[.pointer (some ⟨d, 0, none⟩), .map (some w1.heap.size)] 236)
  have hsz := HB.out.size
  exact ⟨w1.heap.size + 1, paint χ w.heap.size c, rfl, (Stp.of_below (HB.out.trans (hB.mono hsz))).paint (Nat.le_refl _) c, w1.heap.size, ⟨hb, paint_new (by omega)⟩, (World.ownsMap_made w1 Tryz.prog 247 Rp).alloc _, paint_new hsz⟩

end Go.Proofs.YtnacjogdndggeaaGreatDoor
end
