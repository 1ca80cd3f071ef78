/- Layer 19 (enq): next, Step and All where there is nothing. Layer 19 (enq): Step and All where there is nothing. Layer 20 (deq): Add of nothing. Layers 15 and 16 (wheel, tlog): New over a disk without timers. -/
import Derived.Test.YtnacjogdndggeaaGreatDoorZ27
section
namespace Go.Proofs.YtnacjogdndggeaaGreatDoor
open Go.Shelf Go.RowKit Go.Lib
set_option maxRecDepth 100000
set_option maxHeartbeats 1000000

theorem enqnext_none {χ : Col} {cp c cr t d p q x a : Nat} {T : TapeM} {w : World} (hd : IsEnq χ cp w p t q x a) (h : IsTape χ c cr w t d T) (hr : T.recs = []) (n : Int) :
    Calls Tryz.prog 223 #[.pointer (some ⟨p, 0, none⟩), .int .i64 n] w fun e w' => e = .returned (.tuple #[.int .i64 0, .agg #[.int .i64 0, .int .i64 0, .int .i64 0, .int .i64 0, .int .i64 0, .int .i64 0, .string ⟨#[]⟩, .string ⟨#[]⟩, .string ⟨#[]⟩, .slice none 0 0], .bool false]) ∧ Below w.heap.size w w' := by
  have hN := fun {W : World} (h : IsTape χ c cr W t d T) => Next_none h hr n
  have HT := Lib.hid h
  have e0 : ∀ o, (w.alloc o).cell? ⟨p, 0, none⟩ = some (.pointer (some ⟨t, 0, none⟩)) := fun o => (hd.1.alloc o).cell 0
  have HB := fun (o : Obj) => (Below.refl w.heap.size w).alloc (Nat.le_refl _) o
  have HT2 := fun (o : Obj) => Lib.hid (HT.out.stp (C := fun _ => False) (Stp.of_below (HB o)) (fun h => h) (fun h => h))
  clear h hd
  go_enter Tryz.func223, Tryz.ntmps223
  go_wp2
  refine wp_loop_rounds 1 ?_
  rw [rounds_succ]
  go_wp2_with (fail)
  refine (hN (HT2 _).out).mono ?_
  rintro e w' ⟨rfl, rfl⟩
  go_wp2
  have hnew := Blk.new w #[.int .i64 0, .int .i64 0, .int .i64 0, .int .i64 0, .int .i64 0, .int .i64 0, .string ⟨#[]⟩, .string ⟨#[]⟩, .string ⟨#[]⟩, .slice none 0 0] 56
  have y0 := hnew.cell 0
  have y1 := hnew.cell 1
  have y2 := hnew.cell 2
  have y3 := hnew.cell 3
  have y4 := hnew.cell 4
  have y5 := hnew.cell 5
  have y6 := hnew.cell 6
  have y7 := hnew.cell 7
  have y8 := hnew.cell 8
  have y9 := hnew.cell 9
  refine bodyPost_ret (v := .tuple #[.int .i64 0, .agg #[.int .i64 0, .int .i64 0, .int .i64 0, .int .i64 0, .int .i64 0, .int .i64 0, .string ⟨#[]⟩, .string ⟨#[]⟩, .string ⟨#[]⟩, .slice none 0 0], .bool false]) (by simp [results, Tryz.results223, go_sem, y0, y1, y2, y3, y4, y5, y6, y7, y8, y9]) rfl ⟨rfl, HB _⟩

end Go.Proofs.YtnacjogdndggeaaGreatDoor
end

section
namespace Go.Proofs.YtnacjogdndggeaaGreatDoor
open Go.Shelf Go.RowKit Go.Lib
set_option maxRecDepth 100000
set_option maxHeartbeats 1000000

theorem enqStep_none {χ : Col} {cp c cr t d p q x a : Nat} {T : TapeM} {w : World} (hd : IsEnq χ cp w p t q x a) (h : IsTape χ c cr w t d T) (hr : T.recs = []) :
    Calls Tryz.prog 172 #[.pointer (some ⟨p, 0, none⟩)] w fun e w' => e = .returned (.tuple #[.bool false, .int .i64 0]) ∧ Below w.heap.size w w' := by
  have hN := enqnext_none hd h hr (a : Int)
  have e3 := hd.1.cell 3
  clear h hr hd
  go_enter Tryz.func172, Tryz.ntmps172
  go_wp2_with (fail)
  refine hN.mono ?_
  rintro e w' ⟨rfl, hb⟩
  have HB := Lib.hid hb
  clear hN hb
  go_wp2
  go_ret2
  exact ⟨rfl, HB.out.alloc HB.out.size _⟩

theorem enqAll_none {χ : Col} {cp c cr t d p q x a : Nat} {T : TapeM} {w : World} (hd : IsEnq χ cp w p t q x a) (h : IsTape χ c cr w t d T) (hr : T.recs = []) :
    Calls Tryz.prog 109 #[.pointer (some ⟨p, 0, none⟩)] w fun e w' => e = .returned (.tuple #[.int .i64 0, .int .i64 0]) ∧ Below w.heap.size w w' := by
  have hS := enqStep_none hd h hr
  clear h hr hd
  go_enter Tryz.func109, Tryz.ntmps109
  go_wp2
  refine wp_loop_rounds 1 ?_
  rw [rounds_succ]
  go_wp2_with (fail)
  refine hS.mono ?_
  rintro e w' ⟨rfl, hb⟩
  go_wp2
  go_ret2
  exact ⟨rfl, hb⟩

end Go.Proofs.YtnacjogdndggeaaGreatDoor
end

section
namespace Go.Proofs.YtnacjogdndggeaaGreatDoor
open Go.Shelf Go.RowKit Go.Lib
set_option maxRecDepth 100000
set_option maxHeartbeats 1000000

theorem deqAdd_none {χ : Col} {c p t q x : Nat} {w : World} (h : IsDeq χ c w p t q x) :
    Calls Tryz.prog 110 #[.pointer (some ⟨p, 0, none⟩), .slice none 0 0] w fun e w' => e = .returned (.tuple #[]) ∧ Stp (· = c) χ w χ w' ∧ IsDeq χ c w' p t q x := by
  have c3 := h.1.cell 3
  have f3 := h.1.frozen 3
  have H := Lib.hid h
  clear h
  go_enter Tryz.func110, Tryz.ntmps110
  go_wp2
  go_end0
  exact ⟨rfl, (Stp.refl (· = c) χ w).set (p := ⟨p, 3, none⟩) (.inl H.out.2) _, H.out.1.set 3 (.slice none 0 0), H.out.2⟩

end Go.Proofs.YtnacjogdndggeaaGreatDoor
end

section
namespace Go.Proofs.YtnacjogdndggeaaGreatDoor
open Go.Shelf Go.RowKit Go.Lib
set_option maxRecDepth 100000
set_option maxHeartbeats 1000000

def wslotsN : List UInt8 := [119, 45, 115, 108, 111, 116, 115]
def marksN : List UInt8 := [119, 45, 109, 97, 114, 107, 115]
def IsWheel (χ : Col) (c : Nat) (w : World) (x d : Nat) (at_ : Int) : Prop := CBlk χ c w x #[.pointer (some ⟨d, 0, none⟩), .int .i64 at_] 310
def wheelD (D : Dsk) : Dsk := (D.create wslotsN).write wslotsN 0 (List.replicate 96 0)

theorem wheelNew_any {χ : Col} {cd d : Nat} {D : Dsk} {w : World} (c : Nat) (hd : IsDk χ cd w d D) (hn : D.names [119, 45] = []) (hN : D.files.length ≤ 1000000) (hW : D.waits.length ≤ 1000000) (hroom : 96 ≤ D.room) (a : Int) (h0 : 0 ≤ a) (h1 : a ≤ 1099511627776) :
    Calls Tryz.prog 168 #[.pointer (some ⟨d, 0, none⟩), .int .i64 a] w fun e w' => ∃ x χ', e = .returned (.tuple #[.pointer (some ⟨x, 0, none⟩), .int .i64 0]) ∧ Stp (· = cd) χ w χ' w' ∧ IsWheel χ' c w' x d a ∧ IsDk χ' cd w' d (wheelD D) := by
  have hL := DList_any hd [119, 45] (by omega)
  rw [hn] at hL
  have HD := Lib.hid hd
  have HOK := Lib.hid hd.ok
  clear hd
  have i1 : ¬ a < 0 := by omega
  have i2 : ¬ 1099511627776 < a := by omega
  go_enter Tryz.func168, Tryz.ntmps168
  go_wp2_with (fail)
  refine hL.mono ?_
  rintro e w1 ⟨v, rfl, hv, hb⟩
  obtain ⟨A, cap, rfl⟩ := row_any hv
  clear hL hv
  have HD1 := Lib.hid (HD.out.below hb)
  have HB := Lib.hid hb
  clear hb HD
  have hf1 : D.file wslotsN = none := file_none (head := [119, 45]) hn [115, 108, 111, 116, 115]
  go_wp2_with (fail)
  refine (Create_new HD1.out hf1 (by decide) (by omega)).mono ?_
  rintro e w4 ⟨rfl, χ4, s4, hd4⟩
  have HS4 := Lib.hid ((Stp.of_below (C := (· = cd)) (χ := χ) HB.out).trans s4)
  have HD4 := Lib.hid hd4
  clear s4 hd4 HD1 HB
  obtain ⟨i0, hi, hz0, hz1, hz2⟩ := info_parts u8_info
  have hmk := run_makeSlice (P := Tryz.prog) w4 199 5 i0 (.int .u8 0) Tryz.underlying199 hi hz0 .i64 .i64 96 96 (by omega) (by omega) (by rw [hz1]; decide) (by rw [hz2]; decide) (by omega)
  rw [hz1] at hmk
  have hcells : madeCells (Value.int .u8 0).cells ((96 : Int).toNat * 1) = (bv (List.replicate 96 0)).toArray ++ Array.replicate 0 (.int .u8 0) := by kernel_rfl
  rw [hcells] at hmk
  have hBR := br_new (w1 := w4.alloc (.cells ((bv (List.replicate 96 0)).toArray ++ Array.replicate 0 (.int .u8 0)) 5)) (g := w4.heap.size) (l := List.replicate 96 0) (k := 0) (by decide) (.inl rfl) (heap_alloc_new w4 _)
  obtain ⟨zs, hzs⟩ : ∃ zs : List UInt8, Hid (zs = List.replicate 96 0) := ⟨_, rfl⟩
  have hcv : (convert 199 9 (.slice (some ⟨w4.heap.size, 0, none⟩) 96 96)).run Tryz.prog (w4.alloc (.cells ((bv (List.replicate 96 0)).toArray ++ Array.replicate 0 (.int .u8 0)) 5)) = .ok (.string (S zs)) (w4.alloc (.cells ((bv (List.replicate 96 0)).toArray ++ Array.replicate 0 (.int .u8 0)) 5)) := by
    rw [hzs.out]
    exact conv_back hBR
  have hB5 := (Below.refl w4.heap.size w4).alloc (Nat.le_refl _) (.cells ((bv (List.replicate 96 0)).toArray ++ Array.replicate 0 (.int .u8 0)) 5)
  have HD5 := Lib.hid (HD4.out.below hB5)
  have HS5 := Lib.hid (HS4.out.trans (Stp.of_below hB5))
  clear hBR hB5 HD4 HS4
  generalize w4.alloc (.cells ((bv (List.replicate 96 0)).toArray ++ Array.replicate 0 (.int .u8 0)) 5) = w5 at *
  have hfs : (D.create wslotsN).file wslotsN = some ⟨[], []⟩ := by rw [Dsk.file_create, if_pos rfl]
  have hrm : (D.create wslotsN).room = D.room := by
    unfold Dsk.room
    rw [Dsk.size_create HOK.out hf1]
    rfl
  go_wp2_with (fail)
  refine (Write_good (k := 0) HD5.out hfs (Nat.zero_le _) (s := zs) (by rw [hzs.out]; decide) (by rw [hrm, hzs.out]; simpa using hroom) (by show D.waits.length ≤ _; omega)).mono ?_
  rintro e w6 ⟨rfl, χ6, s6, hd6⟩
  have HS6 := Lib.hid (HS5.out.trans s6)
  have HD6 := Lib.hid hd6
  clear s6 hd6 HS5 HD5 hmk hcv
  go_wp2_with (fail)
  go_ret2
  have hB7 := (Below.refl w6.heap.size w6).alloc (Nat.le_refl _) (.cells #[.pointer (some ⟨d, 0, none⟩), .int .i64 a] 310)
  have s7 := (Stp.of_below (C := fun _ => False) (χ := χ6) hB7).paint (Nat.le_refl _) c
  refine ⟨w6.heap.size, paint χ6 w6.heap.size c, rfl, HS6.out.trans (s7.mono fun k hk => hk.elim), ⟨Blk.new w6 _ _, paint_new (Nat.le_refl _)⟩, ?_⟩
  unfold wheelD
  rw [← hzs.out]
  exact HD6.out.stp s7 (fun h => h)

end Go.Proofs.YtnacjogdndggeaaGreatDoor
end
