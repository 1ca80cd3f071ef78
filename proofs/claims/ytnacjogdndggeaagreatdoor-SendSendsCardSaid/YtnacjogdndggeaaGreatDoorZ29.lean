/- Layer 16 (tlog): New over a disk without timers. Layer 21 (store): lasting over an empty disk. Layer 21 (store): derived over an empty cache. Layer 21 (store): loaded and based where no base is saved. -/
import Derived.Test.YtnacjogdndggeaaGreatDoorZ28
section
namespace Go.Proofs.YtnacjogdndggeaaGreatDoor
open Go.Shelf Go.RowKit Go.Lib
set_option maxRecDepth 100000
set_option maxHeartbeats 1000000

def IsTlog (χ : Col) (c : Nat) (w : World) (x d : Nat) (at_ : Int) (many : Nat) : Prop := ∃ wh, IsWheel χ c w wh d at_ ∧ CBlk χ c w x #[.pointer (some ⟨wh, 0, none⟩), .int .i64 many] 245
def tlogD (D : Dsk) : Dsk := (wheelD D).create marksN

theorem tlogNew_any {χ : Col} {cd d : Nat} {D : Dsk} {w : World} (c : Nat) (hcd : c ≠ cd) (hd : IsDk χ cd w d D) (hn : D.names [119, 45] = []) (hN : D.files.length ≤ 1000000) (hW : D.waits.length ≤ 1000000) (hroom : 96 ≤ D.room) (a : Int) (h0 : 0 ≤ a) (h1 : a ≤ 1099511627776) :
    Calls Tryz.prog 103 #[.pointer (some ⟨d, 0, none⟩), .int .i64 a] w fun e w' => ∃ x χ', e = .returned (.tuple #[.pointer (some ⟨x, 0, none⟩), .int .i64 0]) ∧ Stp (· = cd) χ w χ' w' ∧ IsTlog χ' c w' x d a 0 ∧ IsDk χ' cd w' d (tlogD D) := by
  have hWh := wheelNew_any c hd hn hN hW hroom a h0 h1
  have hf : (wheelD D).file marksN = none := by
    unfold wheelD
    rw [Dsk.file_write (f := ⟨[], []⟩) (by rw [Dsk.file_create, if_pos rfl]), if_neg (by decide), Dsk.file_create, if_neg (by decide)]
    exact file_none (head := [119, 45]) hn [109, 97, 114, 107, 115]
  have hl : (wheelD D).files.length ≤ 1000000000 := by
    have := create_length D wslotsN
    have h2 : (wheelD D).files.length = (D.create wslotsN).files.length := by
      unfold wheelD
      rw [write_files (f := ⟨[], []⟩) (by rw [Dsk.file_create, if_pos rfl]) (by decide)]
      show (amod _ _ _).length = _
      unfold amod
      rw [List.length_map]
    omega
  clear hd
  go_enter Tryz.func103, Tryz.ntmps103
  go_wp2_with (fail)
  refine hWh.mono ?_
  rintro e w1 ⟨wh, χ1, rfl, s1, hx1, hd1⟩
  have HS1 := Lib.hid s1
  have HX1 := Lib.hid hx1
  have HD1 := Lib.hid hd1
  clear hWh s1 hx1 hd1
  go_wp2_with (fail)
  refine (Create_new HD1.out hf (by decide) hl).mono ?_
  rintro e w2 ⟨rfl, χ2, s2, hd2⟩
  have HS2 := Lib.hid (HS1.out.trans s2)
  have HX2 := Lib.hid (CBlk.stp HX1.out s2 hcd)
  have HD2 := Lib.hid hd2
  clear s2 hd2 HS1 HX1 HD1
  go_wp2_with (fail)
  go_ret2
  have hB3 := (Below.refl w2.heap.size w2).alloc (Nat.le_refl _) (.cells #[.pointer (some ⟨wh, 0, none⟩), .int .i64 0] 245)
  have s3 := (Stp.of_below (C := fun _ => False) (χ := χ2) hB3).paint (Nat.le_refl _) c
  exact ⟨w2.heap.size, paint χ2 w2.heap.size c, rfl, HS2.out.trans (s3.mono fun k hk => hk.elim), ⟨wh, HX2.out.stp s3 (fun h => h), Blk.new w2 _ _, paint_new (Nat.le_refl _)⟩, HD2.out.stp s3 (fun h => h)⟩

end Go.Proofs.YtnacjogdndggeaaGreatDoor
end

section
namespace Go.Proofs.YtnacjogdndggeaaGreatDoor
open Go.Shelf Go.RowKit Go.Lib
set_option maxRecDepth 100000
set_option maxHeartbeats 1000000

/-- Main has colour 1, cache 2; the tape 3, its row 4; topics 5, groups 6; the store's own block 7. -/
theorem lasting_none {χ : Col} {s mn pd : Nat} {now : Int} {D : Dsk} {w : World} (hs : CBlk χ 7 w s #[.pointer none, .pointer none, .pointer none, .pointer none, .pointer none, .pointer none, ptr pd, .pointer none, .pointer none, .pointer none, ptr mn, .int .i64 now] 51)
    (hd : IsDk χ 1 w mn D) (ht : Tab χ w) (hn : D.names tapeHead = []) (hf1 : D.file topicsN = none) (hf2 : D.file groupsN = none) (hN : D.files.length ≤ 1000000000) (hW : D.waits.length ≤ 1000000000) :
    Calls Tryz.prog 54 #[ptr s] w fun e w' => e = .returned (.int .i64 0) ∧ ∃ tp tb gr χ', Stp (fun k => k = 7 ∨ k = 4 ∨ k = 1) χ w χ' w' ∧
      CBlk χ' 7 w' s #[ptr tp, .pointer none, .pointer none, ptr tb, ptr gr, .pointer none, ptr pd, .pointer none, .pointer none, .pointer none, ptr mn, .int .i64 now] 51 ∧
      IsDk χ' 1 w' mn D ∧ IsTape χ' 3 4 w' tp mn tape0 ∧ IsTops χ' 5 w' tb mn [] ∧ IsOffs0 χ' 6 w' gr mn := by
  have hT := TapeOpen_none 3 4 (by decide) (by decide) (by decide) (by decide) (by decide) hd ht hn hN hW
  have c10 := hs.1.cell 10
  have HS := Lib.hid hs
  clear hs hd ht
  unfold ptr at *
  go_enter Tryz.func54, Tryz.ntmps54
  go_wp2_with (fail)
  refine hT.mono ?_
  rintro e w1 ⟨tp, χ1, rfl, s1, ht1, hd1⟩
  have hs1 := HS.out.stp s1 (by decide)
  have a10 := hs1.1.cell 10
  have a0 := hs1.1.cell 0
  have f0 := hs1.1.frozen 0
  have s2 := (Stp.refl (· = 7) χ1 w1).set (p := ⟨s, 0, none⟩) (.inl hs1.2) (.pointer (some ⟨tp, 0, none⟩))
  have H2 := Lib.hid (show CBlk χ1 7 _ s _ _ from ⟨hs1.1.set 0 (.pointer (some ⟨tp, 0, none⟩)), hs1.2⟩)
  have HD2 := Lib.hid (hd1.stp s2 (by decide))
  have HT2 := Lib.hid (ht1.stp s2 (by decide) (by decide))
  have HS2 := Lib.hid ((s1.mono (C' := fun k => k = 7 ∨ k = 4 ∨ k = 1) fun k hk => Or.inr hk).trans (s2.mono fun k hk => Or.inl hk))
  clear hT hs1 s1 s2 ht1 hd1 HS
  have b10 := H2.out.1.cell 10
  go_wp2_with (fail)
  generalize w1.setCell ⟨s, 0, none⟩ (.pointer (some ⟨tp, 0, none⟩)) = w2 at *
  clear a10 a0 f0 c10
  refine (TopicOpen_none 5 HD2.out hf1).mono ?_
  rintro e w3 ⟨tb, χ3, rfl, s3, htb⟩
  have h3 := H2.out.stp s3 (fun h => h)
  have a10 := h3.1.cell 10
  have a3 := h3.1.cell 3
  have f3 := h3.1.frozen 3
  have s4 := (Stp.refl (· = 7) χ3 w3).set (p := ⟨s, 3, none⟩) (.inl h3.2) (.pointer (some ⟨tb, 0, none⟩))
  have H4 := Lib.hid (show CBlk χ3 7 _ s _ _ from ⟨h3.1.set 3 (.pointer (some ⟨tb, 0, none⟩)), h3.2⟩)
  have HD4 := Lib.hid ((HD2.out.stp s3 (fun h => h)).stp s4 (by decide))
  have HT4 := Lib.hid ((HT2.out.stp s3 (fun h => h) (fun h => h)).stp s4 (by decide) (by decide))
  have HB4 := Lib.hid (htb.stp s4 (by decide))
  have HS4 := Lib.hid ((HS2.out.trans (s3.mono fun k hk => hk.elim)).trans (s4.mono fun k hk => Or.inl hk))
  clear h3 s3 s4 htb H2 HD2 HT2 HS2 b10
  go_wp2_with (fail)
  generalize w3.setCell ⟨s, 3, none⟩ (.pointer (some ⟨tb, 0, none⟩)) = w4 at *
  clear a10 a3 f3
  refine (OffsOpen_none 6 HD4.out hf2).mono ?_
  rintro e w5 ⟨gr, χ5, rfl, s5, hgr⟩
  have h5 := H4.out.stp s5 (fun h => h)
  have a4 := h5.1.cell 4
  have f4 := h5.1.frozen 4
  have s6 := (Stp.refl (· = 7) χ5 w5).set (p := ⟨s, 4, none⟩) (.inl h5.2) (.pointer (some ⟨gr, 0, none⟩))
  have H6 := Lib.hid (show CBlk χ5 7 _ s _ _ from ⟨h5.1.set 4 (.pointer (some ⟨gr, 0, none⟩)), h5.2⟩)
  have HD6 := Lib.hid ((HD4.out.stp s5 (fun h => h)).stp s6 (by decide))
  have HT6 := Lib.hid ((HT4.out.stp s5 (fun h => h) (fun h => h)).stp s6 (by decide) (by decide))
  have HB6 := Lib.hid ((HB4.out.stp s5 (fun h => h)).stp s6 (by decide))
  have HG6 := Lib.hid (CBlk.stp hgr s6 (by decide))
  have HS6 := Lib.hid ((HS4.out.trans (s5.mono fun k hk => hk.elim)).trans (s6.mono fun k hk => Or.inl hk))
  clear h5 s5 s6 hgr H4 HD4 HT4 HB4 HS4
  go_wp2
  go_ret
  exact ⟨rfl, tp, tb, gr, χ5, HS6.out, H6.out, HD6.out, HT6.out, HB6.out, HG6.out⟩

end Go.Proofs.YtnacjogdndggeaaGreatDoor
end

section
namespace Go.Proofs.YtnacjogdndggeaaGreatDoor
open Go.Shelf Go.RowKit Go.Lib
set_option maxRecDepth 100000
set_option maxHeartbeats 1000000

theorem indexD_empty (ws : List WaitC) (cap : Nat) : indexD ⟨[], ws, cap⟩ = ⟨[(linksN, ⟨[], []⟩), (slotsN, ⟨[], List.replicate 24 0⟩)], ws ++ [⟨slotsN, 0, List.replicate 24 0⟩], cap⟩ := by kernel_rfl
theorem indexD_facts {D : Dsk} (hf : D.files = []) : (indexD D).names [119, 45] = [] ∧ (indexD D).files.length = 2 ∧ (indexD D).waits.length = D.waits.length + 1 ∧ (indexD D).room = D.room - 24 := by
  obtain ⟨fs, ws, cap⟩ := D
  simp only at hf
  subst hf
  rw [indexD_empty]
  refine ⟨by kernel_rfl, rfl, by simp, ?_⟩
  unfold Dsk.room
  show (cap : Int) - ((24 : Nat) : Int) = (cap : Int) - ((0 : Nat) : Int) - 24
  omega

/-- Queues 8, index 9, timers 10. -/
theorem derived_none {χ : Col} {s mn ca pd tp tb gr : Nat} {now : Int} {D : Dsk} {w : World} (hs : CBlk χ 7 w s #[ptr tp, .pointer none, .pointer none, ptr tb, ptr gr, .pointer none, ptr pd, .pointer none, .pointer none, .pointer none, ptr mn, .int .i64 now] 51)
    (hd : IsDk χ 2 w ca D) (hf : D.files = []) (hW : D.waits.length ≤ 100000) (hroom : 1000 ≤ D.room) (h0 : 0 ≤ now) (h1 : now ≤ 1099511627776) :
    Calls Tryz.prog 56 #[ptr s, ptr ca] w fun e w' => e = .returned (.int .i64 0) ∧ ∃ qs ix tm χ', Stp (fun k => k = 7 ∨ k = 2) χ w χ' w' ∧
      CBlk χ' 7 w' s #[ptr tp, ptr qs, ptr ix, ptr tb, ptr gr, ptr tm, ptr pd, .pointer none, .pointer none, .pointer none, ptr mn, .int .i64 now] 51 ∧
      IsDk χ' 2 w' ca (tlogD (indexD D)) ∧ IsQs0 χ' 8 w' qs ca ∧ IsX χ' 9 w' ix ca 0 ∧ IsTlog χ' 10 w' tm ca now 0 := by
  have hn : ∀ h, D.names h = [] := fun h => by
    unfold Dsk.names
    rw [hf]
    rfl
  have hQ := cqNew_any 8 hd (hn _) (by rw [hf]; simp)
  have HD := Lib.hid hd
  have HS := Lib.hid hs
  clear hs hd
  unfold ptr at *
  go_enter Tryz.func56, Tryz.ntmps56
  go_wp2_with (fail)
  refine hQ.mono ?_
  rintro e w1 ⟨qs, χ1, rfl, s1, hq1⟩
  have hs1 := HS.out.stp s1 (fun h => h)
  have a1 := hs1.1.cell 1
  have f1 := hs1.1.frozen 1
  have s2 := (Stp.refl (· = 7) χ1 w1).set (p := ⟨s, 1, none⟩) (.inl hs1.2) (.pointer (some ⟨qs, 0, none⟩))
  have H2 := Lib.hid (show CBlk χ1 7 _ s _ _ from ⟨hs1.1.set 1 (.pointer (some ⟨qs, 0, none⟩)), hs1.2⟩)
  have HD2 := Lib.hid ((HD.out.stp s1 (fun h => h)).stp s2 (by decide))
  have HQ2 := Lib.hid (hq1.stp s2 (by decide))
  have HS2 := Lib.hid ((s1.mono (C' := fun k => k = 7 ∨ k = 2) fun k hk => hk.elim).trans (s2.mono fun k hk => Or.inl hk))
  clear hQ hs1 s1 s2 hq1 HS HD
  go_wp2_with (fail)
  generalize w1.setCell ⟨s, 1, none⟩ (.pointer (some ⟨qs, 0, none⟩)) = w2 at *
  clear a1 f1
  refine (keyxNew_any 9 (by decide) HD2.out (hn _) (by rw [hf]; simp) (by omega) (by omega)).mono ?_
  rintro e w3 ⟨ix, χ3, rfl, s3, hx3, hd3⟩
  have h3 := H2.out.stp s3 (by decide)
  have a2 := h3.1.cell 2
  have f2 := h3.1.frozen 2
  have s4 := (Stp.refl (· = 7) χ3 w3).set (p := ⟨s, 2, none⟩) (.inl h3.2) (.pointer (some ⟨ix, 0, none⟩))
  have H4 := Lib.hid (show CBlk χ3 7 _ s _ _ from ⟨h3.1.set 2 (.pointer (some ⟨ix, 0, none⟩)), h3.2⟩)
  have HD4 := Lib.hid (hd3.stp s4 (by decide))
  have HQ4 := Lib.hid ((HQ2.out.stp s3 (by decide)).stp s4 (by decide))
  have HX4 := Lib.hid (CBlk.stp hx3 s4 (by decide))
  have HS4 := Lib.hid ((HS2.out.trans (s3.mono fun k hk => Or.inr hk)).trans (s4.mono fun k hk => Or.inl hk))
  have b11 := H4.out.1.cell 11
  clear h3 s3 s4 hx3 hd3 H2 HD2 HQ2 HS2
  go_wp2_with (fail)
  generalize w3.setCell ⟨s, 2, none⟩ (.pointer (some ⟨ix, 0, none⟩)) = w4 at *
  clear a2 f2 b11
  obtain ⟨i1, i2, i3, i4⟩ := indexD_facts hf
  refine (tlogNew_any 10 (by decide) HD4.out i1 (by omega) (by omega) (by omega) now h0 h1).mono ?_
  rintro e w5 ⟨tm, χ5, rfl, s5, ht5, hd5⟩
  have h5 := H4.out.stp s5 (by decide)
  have a5 := h5.1.cell 5
  have f5 := h5.1.frozen 5
  have s6 := (Stp.refl (· = 7) χ5 w5).set (p := ⟨s, 5, none⟩) (.inl h5.2) (.pointer (some ⟨tm, 0, none⟩))
  have H6 := Lib.hid (show CBlk χ5 7 _ s _ _ from ⟨h5.1.set 5 (.pointer (some ⟨tm, 0, none⟩)), h5.2⟩)
  have HD6 := Lib.hid (hd5.stp s6 (by decide))
  have HQ6 := Lib.hid ((HQ4.out.stp s5 (by decide)).stp s6 (by decide))
  have HX6 := Lib.hid (CBlk.stp (CBlk.stp HX4.out s5 (by decide)) s6 (by decide))
  obtain ⟨wh, hw5, hl5⟩ := ht5
  have HT6 := Lib.hid (show IsTlog χ5 10 _ tm ca now 0 from ⟨wh, CBlk.stp hw5 s6 (by decide), hl5.stp s6 (by decide)⟩)
  have HS6 := Lib.hid ((HS4.out.trans (s5.mono fun k hk => Or.inr hk)).trans (s6.mono fun k hk => Or.inl hk))
  clear h5 s5 s6 hw5 hl5 hd5 H4 HD4 HQ4 HX4 HS4 i1 i2 i3 i4
  go_wp2
  go_ret
  exact ⟨rfl, qs, ix, tm, χ5, HS6.out, H6.out, HD6.out, HQ6.out, HX6.out, HT6.out⟩

end Go.Proofs.YtnacjogdndggeaaGreatDoor
end

section
namespace Go.Proofs.YtnacjogdndggeaaGreatDoor
open Go.Shelf Go.RowKit Go.Lib
set_option maxRecDepth 100000
set_option maxHeartbeats 1000000

def baseN : List UInt8 := [98, 97, 115, 101]
theorem loaded_none {χ : Col} {cd d : Nat} {D : Dsk} {w : World} (hd : IsDk χ cd w d D) (hf : D.file baseN = none) :
    Calls Tryz.prog 98 #[.pointer (some ⟨d, 0, none⟩)] w fun e w' => e = .returned (.tuple #[.agg #[.int .i64 0, .slice none 0 0], .bool false, .int .i64 0]) ∧ Below w.heap.size w w' := by
  have HB := (Below.refl w.heap.size w).alloc (Nat.le_refl _) (.cells #[.int .i64 0, .slice none 0 0] 162)
  have hL := Load_none (hd.below HB) hf (by decide)
  have hnew := Blk.new w #[.int .i64 0, .slice none 0 0] 162
  have HB2 := Lib.hid HB
  have HN := Lib.hid hnew
  clear hd hf HB hnew
  go_enter Tryz.func98, Tryz.ntmps98
  go_wp2_with (fail)
  refine hL.mono ?_
  rintro e w1 ⟨rfl, hb⟩
  have hn1 := Blk.below HN.out hb
  have f0 := hn1.frozen 0
  have f1 := hn1.frozen 1
  have c0 := hn1.cell 0
  have c1 := hn1.cell 1
  have HB3 := Lib.hid (HB2.out.trans (hb.mono HB2.out.size))
  clear hb hL HB2
  go_wp2_with (fail)
  have hn2 := (hn1.set 0 (.int .i64 0)).set 1 (.slice none 0 0)
  have y0 := hn2.cell 0
  have y1 := hn2.cell 1
  refine bodyPost_ret (v := .tuple #[.agg #[.int .i64 0, .slice none 0 0], .bool false, .int .i64 0]) (by simp [results, Tryz.results98, go_sem, y0, y1]) rfl ⟨rfl, (HB3.out.setCell (p := ⟨w.heap.size, 0, none⟩) (Nat.le_refl _) _).setCell (p := ⟨w.heap.size, 1, none⟩) (Nat.le_refl _) _⟩

theorem based_none {χ : Col} {c cd s d : Nat} {D : Dsk} {w : World} {vs : Array Value} (hs : CBlk χ c w s vs 51) (h10 : vs[10]? = some (ptr d)) (hd : IsDk χ cd w d D) (hf : D.file baseN = none) :
    Calls Tryz.prog 55 #[ptr s] w fun e w' => e = .returned (.int .i64 0) ∧ Below w.heap.size w w' := by
  have hL := loaded_none hd hf
  have c10 : w.cell? ⟨s, 10, none⟩ = some (.pointer (some ⟨d, 0, none⟩)) := (hs.1.cell 10).trans h10
  clear hd hf hs h10
  unfold ptr
  go_enter Tryz.func55, Tryz.ntmps55
  go_wp2_with (fail)
  refine hL.mono ?_
  rintro e w1 ⟨rfl, hb⟩
  have HB := Lib.hid hb
  clear hb hL
  go_wp2_with (fail)
  go_ret
  exact ⟨rfl, HB.out.alloc HB.out.size _⟩

end Go.Proofs.YtnacjogdndggeaaGreatDoor
end
