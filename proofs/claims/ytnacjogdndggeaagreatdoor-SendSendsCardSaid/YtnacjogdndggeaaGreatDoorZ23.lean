/- Layer 11 (keyx): New over a disk without an index. Layer 13 (topic): Load. Layers 13 and 14 (topic, offs): Open over a disk without them. Layer 13 (topic): may a topic be added?. -/
import Derived.Test.YtnacjogdndggeaaGreatDoorZ22
import Derived.Laws.MakeOwn
import Derived.Test.YtnacjogdndggeaaGreatDoorZ13
import Derived.Test.YtnacjogdndggeaaGreatDoorZ14
import Derived.Test.YtnacjogdndggeaaGreatDoorZ18
import Derived.Test.YtnacjogdndggeaaGreatDoorZ06
section
namespace Go.Proofs.YtnacjogdndggeaaGreatDoor
open Go.Shelf Go.RowKit Go.Lib
set_option maxRecDepth 100000
set_option maxHeartbeats 1000000

def linksN : List UInt8 := [120, 45, 108, 105, 110, 107, 115]
def slotsN : List UInt8 := [120, 45, 115, 108, 111, 116, 115]
def IsX (χ : Col) (c : Nat) (w : World) (x d many : Nat) : Prop := CBlk χ c w x #[.pointer (some ⟨d, 0, none⟩), .int .i64 many] 238
def indexD (D : Dsk) : Dsk := ((D.create linksN).create slotsN).write slotsN 0 (List.replicate 24 0)

theorem length_ains {κ α : Type} [DecidableEq κ] {kf : κ → Lit} (x : κ × α) : ∀ l : List (κ × α), (ains kf x l).length = l.length + 1
  | [] => rfl
  | y :: r => by
    unfold ains
    split
    · rfl
    · rw [List.length_cons, length_ains x r, List.length_cons]
theorem create_length (D : Dsk) (n : List UInt8) : (D.create n).files.length ≤ D.files.length + 1 := by
  show (ains Lit.string (n, _) (adel n D.files)).length ≤ _
  rw [length_ains]
  have := List.length_filter_le (fun p : List UInt8 × FileC => !decide (p.1 = n)) D.files
  unfold adel
  omega
theorem file_none {D : Dsk} {head : List UInt8} (h : D.names head = []) (n : List UInt8) : D.file (head ++ n) = none := by
  cases hf : D.file (head ++ n) with
  | none => rfl
  | some f =>
    exfalso
    have hm : head ++ n ∈ D.names head := by
      unfold Dsk.names
      refine List.mem_filter.2 ⟨file_mem hf, ?_⟩
      rw [List.isPrefixOf_iff_prefix]
      exact List.prefix_append _ _
    rw [h] at hm
    cases hm
theorem keyxNew_any {χ : Col} {cd d : Nat} {D : Dsk} {w : World} (c : Nat) (hcd : c ≠ cd) (hd : IsDk χ cd w d D) (hn : D.names [120, 45] = []) (hN : D.files.length ≤ 1000000) (hW : D.waits.length ≤ 1000000) (hroom : 24 ≤ D.room) :
    Calls Tryz.prog 102 #[.pointer (some ⟨d, 0, none⟩)] w fun e w' => ∃ x χ', e = .returned (.tuple #[.pointer (some ⟨x, 0, none⟩), .int .i64 0]) ∧ Stp (· = cd) χ w χ' w' ∧ IsX χ' c w' x d 0 ∧ IsDk χ' cd w' d (indexD D) := by
  have hL := DList_any hd [120, 45] (by omega)
  rw [hn] at hL
  have HD := Lib.hid hd
  have HOK := Lib.hid hd.ok
  clear hd
  go_enter Tryz.func102, Tryz.ntmps102
  go_wp2_with (fail)
  refine hL.mono ?_
  rintro e w1 ⟨v, rfl, hv, hb⟩
  obtain ⟨A, cap, rfl⟩ := row_any hv
  clear hL hv
  have HB := Lib.hid hb
  clear hb
  go_wp2_with (fail)
  have hB2 := ((Below.refl w1.heap.size w1).alloc (Nat.le_refl _) (.cells #[.pointer (some ⟨d, 0, none⟩), .int .i64 0] 238)).alloc (by simp) (.cells #[.string ⟨#[120, 45, 108, 105, 110, 107, 115]⟩, .string ⟨#[120, 45, 115, 108, 111, 116, 115]⟩] 9)
  have HS2 := Lib.hid ((Stp.of_below (C := fun _ => False) (χ := χ) (HB.out.trans (hB2.mono HB.out.size))).paint (Nat.le_refl _) c)
  have hx := (Blk.new w1 #[.pointer (some ⟨d, 0, none⟩), .int .i64 0] 238).alloc (.cells #[.string ⟨#[120, 45, 108, 105, 110, 107, 115]⟩, .string ⟨#[120, 45, 115, 108, 111, 116, 115]⟩] 9)
  have ha := Blk.new (w1.alloc (.cells #[.pointer (some ⟨d, 0, none⟩), .int .i64 0] 238)) #[.string ⟨#[120, 45, 108, 105, 110, 107, 115]⟩, .string ⟨#[120, 45, 115, 108, 111, 116, 115]⟩] 9
  rw [show (w1.alloc (.cells #[.pointer (some ⟨d, 0, none⟩), .int .i64 0] 238)).heap.size = w1.heap.size + 1 by simp] at ha
  have HX2 := Lib.hid (show IsX (paint χ w.heap.size c) c _ w1.heap.size d 0 from ⟨hx, paint_new HB.out.size⟩)
  have HA2 := Lib.hid (show CBlk (paint χ w.heap.size c) c _ _ _ _ from ⟨ha, paint_new (by have := HB.out.size; omega)⟩)
  have HD2 := Lib.hid (HD.out.stp HS2.out (fun h => h))
  have a0 := ha.cell 0
  have a1 := ha.cell 1
  clear hB2 hx ha HB HD
  generalize paint χ w.heap.size c = χ2 at *
  refine wp_loop_rounds 3 ?_
  rw [rounds_succ]
  go_wp2_with (fail)
  have hf1 : D.file linksN = none := file_none (head := [120, 45]) hn [108, 105, 110, 107, 115]
  have hf2 : (D.create linksN).file slotsN = none := by
    rw [Dsk.file_create, if_neg (by decide)]
    exact file_none (head := [120, 45]) hn [115, 108, 111, 116, 115]
  refine (Create_new HD2.out hf1 (by decide) (by omega)).mono ?_
  rintro e w3 ⟨rfl, χ3, s3, hd3⟩
  have HS3 := Lib.hid ((HS2.out.mono (C' := (· = cd)) fun k hk => hk.elim).trans s3)
  have HX3 := Lib.hid (CBlk.stp HX2.out s3 hcd)
  have hA3 := HA2.out.stp s3 hcd
  have b1 := hA3.1.cell 1
  have HA3 := Lib.hid hA3
  have HD3 := Lib.hid hd3
  clear s3 hd3 hA3 HS2 HX2 HA2 HD2
  go_wp2_with (fail)
  rw [rounds_succ]
  go_wp2_with (fail)
  refine (Create_new HD3.out hf2 (by decide) (by have := create_length D linksN; omega)).mono ?_
  rintro e w4 ⟨rfl, χ4, s4, hd4⟩
  have HS4 := Lib.hid (HS3.out.trans s4)
  have HX4 := Lib.hid (CBlk.stp HX3.out s4 hcd)
  have HD4 := Lib.hid hd4
  clear s4 hd4 HS3 HX3 HA3 HD3
  go_wp2_with (fail)
  rw [rounds_succ]
  obtain ⟨i0, hi, hz0, hz1, hz2⟩ := info_parts u8_info
  have hmk := run_makeSlice (P := Tryz.prog) w4 199 5 i0 (.int .u8 0) Tryz.underlying199 hi hz0 .i64 .i64 24 24 (by omega) (by omega) (by rw [hz1]; decide) (by rw [hz2]; decide) (by omega)
  rw [hz1] at hmk
  have hcells : madeCells (Value.int .u8 0).cells ((24 : Int).toNat * 1) = (bv (List.replicate 24 0)).toArray ++ Array.replicate 0 (.int .u8 0) := by kernel_rfl
  rw [hcells] at hmk
  have hBR := br_new (w1 := w4.alloc (.cells ((bv (List.replicate 24 0)).toArray ++ Array.replicate 0 (.int .u8 0)) 5)) (g := w4.heap.size) (l := List.replicate 24 0) (k := 0) (by decide) (.inl rfl) (heap_alloc_new w4 _)
  obtain ⟨zs, hzs⟩ : ∃ zs : List UInt8, Hid (zs = List.replicate 24 0) := ⟨_, rfl⟩
  have hcv : (convert 199 9 (.slice (some ⟨w4.heap.size, 0, none⟩) 24 24)).run Tryz.prog (w4.alloc (.cells ((bv (List.replicate 24 0)).toArray ++ Array.replicate 0 (.int .u8 0)) 5)) = .ok (.string (S zs)) (w4.alloc (.cells ((bv (List.replicate 24 0)).toArray ++ Array.replicate 0 (.int .u8 0)) 5)) := by
    rw [hzs.out]
    exact conv_back hBR
  have hB5 := (Below.refl w4.heap.size w4).alloc (Nat.le_refl _) (.cells ((bv (List.replicate 24 0)).toArray ++ Array.replicate 0 (.int .u8 0)) 5)
  have HX5 := Lib.hid (CBlk.stp (C := fun _ => False) HX4.out (Stp.of_below hB5) (fun h => h))
  have HD5 := Lib.hid (HD4.out.below hB5)
  have HS5 := Lib.hid (HS4.out.trans (Stp.of_below hB5))
  clear hBR hB5 HX4 HD4 HS4
  generalize w4.alloc (.cells ((bv (List.replicate 24 0)).toArray ++ Array.replicate 0 (.int .u8 0)) 5) = w5 at *
  have hfs : ((D.create linksN).create slotsN).file slotsN = some ⟨[], []⟩ := by rw [Dsk.file_create, if_pos rfl]
  go_wp2_with (fail)
  have hrm : ((D.create linksN).create slotsN).room = D.room := by
    unfold Dsk.room
    rw [Dsk.size_create (HOK.out.create linksN) hf2, Dsk.size_create HOK.out hf1]
    rfl
  refine (Write_good (k := 0) HD5.out hfs (Nat.zero_le _) (s := zs) (by rw [hzs.out]; decide) (by rw [hrm, hzs.out]; simpa using hroom) (by show D.waits.length ≤ _; omega)).mono ?_
  rintro e w6 ⟨rfl, χ6, s6, hd6⟩
  have hX6 := CBlk.stp HX5.out s6 hcd
  have HS6 := HS5.out.trans s6
  go_wp2_with (fail)
  go_ret2
  refine ⟨_, χ6, rfl, HS6, hX6, ?_⟩
  unfold indexD
  rw [← hzs.out]
  exact hd6

end Go.Proofs.YtnacjogdndggeaaGreatDoor
end

section
namespace Go.Proofs.YtnacjogdndggeaaGreatDoor
open Go.Shelf Go.RowKit Go.Lib
set_option maxRecDepth 100000
set_option maxHeartbeats 1000000

theorem Load_none {χ : Col} {cd d : Nat} {D : Dsk} {w : World} {n : List UInt8} (hd : IsDk χ cd w d D) (hf : D.file n = none) (hn : n.length ≤ 1000) :
    Calls Tryz.prog 161 #[.pointer (some ⟨d, 0, none⟩), .string (S n)] w fun e w' => e = .returned (.tuple #[.string (S []), .bool false, .int .i64 0]) ∧ Below w.heap.size w w' := by
  have hA := All_none hd hf hn
  clear hd hf
  go_enter Tryz.func161, Tryz.ntmps161
  go_wp2_with (fail)
  refine hA.mono ?_
  rintro e w' ⟨rfl, hb⟩
  clear hA
  go_wp2_with (fail)
  go_ret3
  exact ⟨rfl, hb⟩

theorem Load_sealed {χ : Col} {cd d : Nat} {D : Dsk} {w : World} {n l : List UInt8} {f : FileC} (hd : IsDk χ cd w d D) (hf : D.file n = some f) (hs : f.now = sealF l) (hl : l.length ≤ 100000) :
    Calls Tryz.prog 161 #[.pointer (some ⟨d, 0, none⟩), .string (S n)] w fun e w' => e = .returned (.tuple #[.string (S l), .bool true, .int .i64 0]) ∧ Below w.heap.size w w' := by
  have hA := All_there hd hf
  rw [hs] at hA
  have hO := fun {g : Nat} {W : World} (h : IsTab g W) => Open_sealed g l W h hl
  clear hd hf hs
  go_enter Tryz.func161, Tryz.ntmps161
  go_wp2_with (fail)
  refine hA.mono ?_
  rintro e w1 ⟨rfl, hb1⟩
  have HB1 := Lib.hid hb1
  clear hA hb1
  go_wp2_with (fail)
  refine (crcNew_any w1).mono ?_
  rintro e w2 ⟨rfl, htab, hb2⟩
  have HB2 := Lib.hid (HB1.out.trans (hb2.mono HB1.out.size))
  have HT := Lib.hid htab
  clear hb2 htab
  go_wp2_with (fail)
  refine (hO HT.out).mono ?_
  rintro e w3 ⟨rfl, hb3⟩
  have HB3 := Lib.hid (HB2.out.trans (hb3.mono HB2.out.size))
  clear hb3
  go_wp2_with (fail)
  go_ret3
  exact ⟨rfl, HB3.out⟩

end Go.Proofs.YtnacjogdndggeaaGreatDoor
end

section
namespace Go.Proofs.YtnacjogdndggeaaGreatDoor
open Go.Shelf Go.RowKit Go.Lib
set_option maxRecDepth 100000
set_option maxHeartbeats 1000000

def topicsN : List UInt8 := [116, 111, 112, 105, 99, 115]
def groupsN : List UInt8 := [103, 114, 111, 117, 112, 115]

theorem TopicOpen_none {χ : Col} {cd d : Nat} {D : Dsk} {w : World} (c : Nat) (hd : IsDk χ cd w d D) (hf : D.file topicsN = none) :
    Calls Tryz.prog 96 #[.pointer (some ⟨d, 0, none⟩)] w fun e w' => ∃ p χ', e = .returned (.tuple #[.pointer (some ⟨p, 0, none⟩), .int .i64 0]) ∧ Stp (fun _ => False) χ w χ' w' ∧ IsTops χ' c w' p d [] := by
  have hL := Load_none hd hf (by decide)
  clear hd hf
  go_enter Tryz.func96, Tryz.ntmps96
  go_wp2_with (fail)
  refine hL.mono ?_
  rintro e w1 ⟨rfl, hb⟩
  clear hL
  have HB := Lib.hid hb
  clear hb
  go_wp2_with (fail)
  go_ret2
  have hB := (Below.refl w1.heap.size w1).alloc (Nat.le_refl _) (.cells #[.pointer (some ⟨d, 0, none⟩), .slice none 0 0] 124)
  have hsz := HB.out.size
  exact ⟨w1.heap.size, paint χ w.heap.size c, rfl, (Stp.of_below (HB.out.trans (hB.mono hsz))).paint (Nat.le_refl _) c, .slice none 0 0, ⟨Blk.new w1 _ _, paint_new hsz⟩, World.ownsRow_nil .., fun g hg => by cases hg⟩

/-- Offsets, none known. -/
def IsOffs0 (χ : Col) (c : Nat) (w : World) (p d : Nat) : Prop := CBlk χ c w p #[.pointer (some ⟨d, 0, none⟩), .slice none 0 0] 231
theorem OffsOpen_none {χ : Col} {cd d : Nat} {D : Dsk} {w : World} (c : Nat) (hd : IsDk χ cd w d D) (hf : D.file groupsN = none) :
    Calls Tryz.prog 97 #[.pointer (some ⟨d, 0, none⟩)] w fun e w' => ∃ p χ', e = .returned (.tuple #[.pointer (some ⟨p, 0, none⟩), .int .i64 0]) ∧ Stp (fun _ => False) χ w χ' w' ∧ IsOffs0 χ' c w' p d := by
  have hL := Load_none hd hf (by decide)
  clear hd hf
  go_enter Tryz.func97, Tryz.ntmps97
  go_wp2_with (fail)
  refine hL.mono ?_
  rintro e w1 ⟨rfl, hb⟩
  clear hL
  have HB := Lib.hid hb
  clear hb
  go_wp2_with (fail)
  go_ret2
  have hB := (Below.refl w1.heap.size w1).alloc (Nat.le_refl _) (.cells #[.pointer (some ⟨d, 0, none⟩), .slice none 0 0] 231)
  have hsz := HB.out.size
  exact ⟨w1.heap.size, paint χ w.heap.size c, rfl, (Stp.of_below (HB.out.trans (hB.mono hsz))).paint (Nat.le_refl _) c, Blk.new w1 _ _, paint_new hsz⟩

end Go.Proofs.YtnacjogdndggeaaGreatDoor
end

section
namespace Go.Proofs.YtnacjogdndggeaaGreatDoor
open Go.Shelf Go.RowKit Go.Lib
set_option maxRecDepth 100000
set_option maxHeartbeats 1000000

theorem topV_get (L : Tops) : ∀ (j : Nat) (hj : j < L.length) (r : Nat), r < 2 → (L.flatMap topV)[j * 2 + r]? = (topV L[j])[r]? := by
  induction L with
  | nil => intro j hj; simp at hj
  | cons x L ih =>
    intro j hj r hr
    rw [List.flatMap_cons]
    have h2 : (topV x).length = 2 := rfl
    cases j with
    | zero =>
      rw [List.getElem?_append_left (by omega)]
      simp
    | succ j =>
      rw [List.getElem?_append_right (by omega), show (j + 1) * 2 + r - (topV x).length = j * 2 + r by omega]
      exact ih j (by simpa using hj) r hr

/-- A slice's cells are topics. -/
def RTa (w : World) (A : Option Addr) (L : Tops) : Prop := ∀ j (hj : j < L.length), ∃ g, A = some ⟨g, 0, none⟩ ∧ w.cell? ⟨g, j * 2, none⟩ = some (.string (S L[j].1)) ∧ w.cell? ⟨g, j * 2 + 1, none⟩ = some (.int .i64 (L[j].2 : Int))
theorem RTa.below {w w' : World} {A : Option Addr} {L : Tops} (h : RTa w A L) (hb : Below w.heap.size w w') : RTa w' A L := fun j hj => by
  obtain ⟨g, hA, h0, h1⟩ := h j hj
  exact ⟨g, hA, (hb.cell (p := ⟨g, j * 2, none⟩) (cell_lt h0)).trans h0, (hb.cell (p := ⟨g, j * 2 + 1, none⟩) (cell_lt h1)).trans h1⟩
theorem RTa_of_row {w : World} {base : Nat} {A : Option Addr} {cap : Nat} {L : Tops} (h : w.ownsRow base 122 2 (.slice A L.length cap) L.length (L.flatMap topV)) : RTa w A L := by
  intro j hj
  rcases h.2 with ⟨_, h0⟩ | ⟨g, cp, cur, e, _⟩
  · omega
  · injection e with e1 _ e2
    subst e1
    have h0 := h.cells (g := g) rfl (j * 2) (.string (S L[j].1)) (by have := topV_get L j hj 0 (by omega); simpa [topV] using this)
    have h1 := h.cells (g := g) rfl (j * 2 + 1) (.int .i64 (L[j].2 : Int)) (by have := topV_get L j hj 1 (by omega); simpa [topV] using this)
    rw [Addr.add_mid, Nat.zero_add] at h0 h1
    exact ⟨g, rfl, h0, h1⟩

theorem right1_any {W : World} {n m : List UInt8} {q : Int} {fb : Nat} (hc : W.cell? ⟨fb, 0, none⟩ = some (.string (S n))) :
    Calls Tryz.prog 112 #[.agg #[.string (S m), .int .i64 q], .pointer (some ⟨fb, 0, none⟩)] W fun e w' => e = .returned (.bool (decide (m = n))) ∧ Below W.heap.size W w' := by
  have hB := Lib.hid ((Below.refl W.heap.size W).alloc (Nat.le_refl _) (.cells #[.string (S m), .int .i64 q] 122))
  have hcl := cell_lt hc
  have hc2 := (hB.out.cell (p := ⟨fb, 0, none⟩) hcl).trans hc
  go_enter Tryz.func112, Tryz.ntmps112
  go_wp2
  go_ret
  exact ⟨ret_bool (by rw [Bool.eq_iff_iff]; simp), hB.out⟩

theorem TopIndex_none {w : World} {n : List UInt8} {fb cap : Nat} {A : Option Addr} {L : Tops} (hc : w.cell? ⟨fb, 0, none⟩ = some (.string (S n))) (hr : RTa w A L) (hne : ∀ t ∈ L, t.1 ≠ n) (hl : L.length ≤ 1000000) :
    Calls Tryz.prog 173 #[.slice A L.length cap, .func (.func 112) #[] #[.pointer (some ⟨fb, 0, none⟩)]] w fun e w' => e = .returned (.int .i64 (-1)) ∧ Below w.heap.size w w' := by
  have HB := Lib.hid (Below.refl w.heap.size w)
  have HR := Lib.hid hr
  have HC := Lib.hid hc
  have HN := Lib.hid hne
  clear hr hc hne
  go_enter Tryz.func173, Tryz.ntmps173
  go_wp2
  go_loopw [8] (fun vi wr => ∃ k : Nat, k ≤ L.length ∧ vi = .int .i64 k ∧ Hid (Below w.heap.size w wr)) (fun vi _ => L.length - (RowKit.intOf vi).toNat)
  case atStart => exact ⟨0, Nat.zero_le _, rfl, HB⟩
  case round =>
    obtain ⟨k, hk, rfl, HB⟩ := hrel
    by_cases hlt : k < L.length
    · have hcl := cell_lt HC.out
      have h1 : wr.cell? ⟨fb, 0, none⟩ = _ := (HB.out.cell (p := ⟨fb, 0, none⟩) hcl).trans HC.out
      obtain ⟨g, rfl, c0, c1⟩ := (HR.out.below HB.out) k hlt
      have hcl := right1_any (m := L[k].1) (q := (L[k].2 : Int)) h1
      rw [decide_eq_false (HN.out _ (List.getElem_mem hlt))] at hcl
      clear h1
      go_wp2_with (fail)
      refine hcl.mono ?_
      rintro e w1 ⟨rfl, hb1⟩
      have HB1 := Lib.hid (HB.out.trans (hb1.mono HB.out.size))
      clear hcl c0 c1 hb1
      go_wp2
      go_roundw
      case rel => exact ⟨k + 1, hlt, by go_num, HB1⟩
      case measure => simp [RowKit.intOf]; omega
    · have hkn : k = L.length := by omega
      subst hkn
      go_wp2
      go_ret
      exact ⟨rfl, HB.out⟩

theorem TopContains_none {w : World} {n : List UInt8} {fb cap : Nat} {A : Option Addr} {L : Tops} (hc : w.cell? ⟨fb, 0, none⟩ = some (.string (S n))) (hr : RTa w A L) (hne : ∀ t ∈ L, t.1 ≠ n) (hl : L.length ≤ 1000000) :
    Calls Tryz.prog 113 #[.slice A L.length cap, .func (.func 112) #[] #[.pointer (some ⟨fb, 0, none⟩)]] w fun e w' => e = .returned (.bool false) ∧ Below w.heap.size w w' := by
  have hI := TopIndex_none (cap := cap) hc hr hne hl
  clear hr hc hne
  go_enter Tryz.func113, Tryz.ntmps113
  go_wp2_with (fail)
  refine hI.mono ?_
  rintro e w1 ⟨rfl, hb1⟩
  go_wp2
  go_ret
  exact ⟨rfl, hb1⟩

theorem right_good {w : World} {A : Option Addr} {cap : Nat} {L : Tops} {n : List UInt8} {q : Nat} (hr : RTa w A L) (hl : L.length < 6) (hne : ∀ t ∈ L, t.1 ≠ n) (hp : plainF n = true) (h1 : 1 ≤ q) (h3 : q ≤ 3) :
    Calls Tryz.prog 59 #[.slice A L.length cap, .agg #[.string (S n), .int .i64 (q : Int)]] w fun e w' => e = .returned (.int .i64 0) ∧ Below w.heap.size w w' := by
  have hB := (Below.refl w.heap.size w).alloc (Nat.le_refl _) (.cells #[.string (S n), .int .i64 (q : Int)] 122)
  have hbn := Blk.new w #[.string (S n), .int .i64 (q : Int)] 122
  have HR := Lib.hid (hr.below hB)
  have HB := Lib.hid hB
  have HN := Lib.hid hne
  clear hr hB hne
  go_enter Tryz.func59, Tryz.ntmps59
  go_upto_region 1 with (fail)
  generalize w.alloc (.cells #[.string (S n), .int .i64 (q : Int)] 122) = w1 at *
  have hP := Plain_any n w1
  rw [hp] at hP
  have e0 := hbn.cell 0
  have HBN := Lib.hid hbn
  clear hbn
  go_wp2_with (fail)
  refine hP.mono ?_
  rintro e w2 ⟨rfl, hb⟩
  have hbn := HBN.out.below hb
  have HR2 := Lib.hid (HR.out.below hb)
  have HB2 := Lib.hid (HB.out.trans (hb.mono HB.out.size))
  have e0 := hbn.cell 0
  have e1 := hbn.cell 1
  have i1 : ¬ (q : Int) < 1 := by omega
  have i2 : ¬ (3 : Int) < (q : Int) := by omega
  have i3 : ¬ q < 1 := by omega
  have i4 : ¬ 3 < q := by omega
  have i5 : ¬ (6 : Int) ≤ (L.length : Int) := by omega
  have i6 : ¬ 6 ≤ L.length := by omega
  have hC := TopContains_none (cap := cap) e0 HR2.out HN.out (by omega)
  clear hb hP HR HB HBN hbn
  go_wp2_with (fail)
  refine hC.mono ?_
  rintro e w3 ⟨rfl, hb⟩
  have HB3 := Lib.hid (HB2.out.trans (hb.mono HB2.out.size))
  clear hb hC e0 e1
  go_wp2
  go_ret
  exact ⟨rfl, HB3.out⟩

end Go.Proofs.YtnacjogdndggeaaGreatDoor
end
