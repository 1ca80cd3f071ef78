/- reveillelaw07.EntryPuts: the walk. -/
import Derived.Test.YtdiebameocbahaaOcU
import Derived.Deep.CutBlock
namespace Go.Proofs.Ytdiebameocbahaa
open Go.Shelf Go.RowKit

/-- The three entries that came in, each in its own block. -/
abbrev Three (w : World) (p : Nat) (c0 c1 c2 : Array Value) (t0 t1 t2 : TypeId) : Prop := Blk w p c0 t0 ∧ Blk w (p + 1) c1 t1 ∧ Blk w (p + 2) c2 t2
theorem three_new (w : World) (c0 c1 c2 : Array Value) (t0 t1 t2 : TypeId) :
    Three (((w.alloc (.cells c0 t0)).alloc (.cells c1 t1)).alloc (.cells c2 t2)) w.heap.size c0 c1 c2 t0 t1 t2 ∧ Below w.heap.size w (((w.alloc (.cells c0 t0)).alloc (.cells c1 t1)).alloc (.cells c2 t2)) := by
  have e1 : (w.alloc (.cells c0 t0)).heap.size = w.heap.size + 1 := by simp
  have e2 : ((w.alloc (.cells c0 t0)).alloc (.cells c1 t1)).heap.size = w.heap.size + 2 := by simp
  exact ⟨⟨((Blk.new _ _ _).alloc _).alloc _, (Blk.new_at _ _ _ e1).alloc _, Blk.new_at _ _ _ e2⟩, (((Below.refl w.heap.size w).alloc (Nat.le_refl _) _).alloc (by omega) _).alloc (by omega) _⟩
theorem three_below {w w' : World} {p : Nat} {c0 c1 c2 : Array Value} {t0 t1 t2 : TypeId} (h : Three w p c0 c1 c2 t0 t1 t2) (hb : Below w.heap.size w w') : Three w' p c0 c1 c2 t0 t1 t2 :=
  ⟨h.1.below hb, h.2.1.below hb, h.2.2.below hb⟩

theorem alloc_below (w : World) (o : Obj) : Below w.heap.size w (w.alloc o) := (Below.refl w.heap.size w).alloc (Nat.le_refl _) o

theorem place_len (a b c d : Int) : decide ((wBytes (placeW a b c d)).length = 20) = wFit (placeW a b c d) := by
  unfold wBytes
  cases h : wFit (placeW a b c d)
  · simp
  · simp [wFlat, placeW]
theorem link_len (a b c d : Int) : decide ((wBytes (linkW a b c d)).length = 20) = wFit (linkW a b c d) := by
  unfold wBytes
  cases h : wFit (linkW a b c d)
  · simp
  · simp [wFlat, linkW]
theorem mark_len (a b c d : Int) : decide ((wBytes (markW a b c d)).length = 20) = wFit (markW a b c d) := by
  unfold wBytes
  cases h : wFit (markW a b c d)
  · simp
  · simp [wFlat, markW]

theorem nat_mod' {x : Int} {n : Nat} (h : fits n x = true) : ((num (be n x.toNat) : Nat) : Int) = x := by
  obtain ⟨h0, h1⟩ := fits_iff.1 h
  have h3 : (((256 : Nat) ^ n : Nat) : Int) = (256 : Int) ^ n := by simp
  rw [num_be, Nat.mod_eq_of_lt (by omega)]
  omega

/-- Four numbers that fit come back from their bytes. -/
theorem back4 {a b c d : Nat} {x y z u : Int} (hs : a + b + c + d = 20) (h : wFit [(a, x), (b, y), (c, z), (d, u)] = true) :
    partF (wBytes [(a, x), (b, y), (c, z), (d, u)]) 0 a = x ∧ partF (wBytes [(a, x), (b, y), (c, z), (d, u)]) a b = y ∧ partF (wBytes [(a, x), (b, y), (c, z), (d, u)]) (a + b) c = z ∧ partF (wBytes [(a, x), (b, y), (c, z), (d, u)]) (a + b + c) d = u := by
  have hB : wBytes [(a, x), (b, y), (c, z), (d, u)] = be a x.toNat ++ (be b y.toNat ++ (be c z.toNat ++ be d u.toNat)) := by
    unfold wBytes
    rw [if_pos h]
    simp [wFlat]
  have hl : (be a x.toNat ++ (be b y.toNat ++ (be c z.toNat ++ be d u.toNat))).length = 20 := by simp; omega
  simp only [wFit, List.all_cons, List.all_nil, Bool.and_true, Bool.and_eq_true] at h
  obtain ⟨h0, h1, h2, h3⟩ := h
  rw [hB]
  unfold partF
  rw [if_pos hl, if_pos hl, if_pos hl, if_pos hl]
  have d1 : (be a x.toNat ++ (be b y.toNat ++ (be c z.toNat ++ be d u.toNat))).drop a = be b y.toNat ++ (be c z.toNat ++ be d u.toNat) := by
    rw [List.drop_append_of_le_length (by simp), List.drop_of_length_le (by simp), List.nil_append]
  have d2 : (be b y.toNat ++ (be c z.toNat ++ be d u.toNat)).drop b = be c z.toNat ++ be d u.toNat := by
    rw [List.drop_append_of_le_length (by simp), List.drop_of_length_le (by simp), List.nil_append]
  have d3 : (be c z.toNat ++ be d u.toNat).drop c = be d u.toNat := by
    rw [List.drop_append_of_le_length (by simp), List.drop_of_length_le (by simp), List.nil_append]
  refine ⟨?_, ?_, ?_, ?_⟩
  · rw [List.drop_zero, List.take_append_of_le_length (by simp), List.take_of_length_le (by simp)]
    exact nat_mod' h0
  · rw [d1, List.take_append_of_le_length (by simp), List.take_of_length_le (by simp)]
    exact nat_mod' h1
  · rw [← List.drop_drop, d1, d2, List.take_append_of_le_length (by simp), List.take_of_length_le (by simp)]
    exact nat_mod' h2
  · rw [← List.drop_drop, ← List.drop_drop, d1, d2, d3, List.take_of_length_le (by simp)]
    exact nat_mod' h3
theorem place_back (a b c d : Int) : wFit (placeW a b c d) = true → partF (wBytes (placeW a b c d)) 0 6 = a ∧ partF (wBytes (placeW a b c d)) 6 2 = b ∧ partF (wBytes (placeW a b c d)) 8 5 = c ∧ partF (wBytes (placeW a b c d)) 13 7 = d := fun h => back4 (a := 6) (b := 2) (c := 5) (d := 7) rfl h
theorem link_back (a b c d : Int) : wFit (linkW a b c d) = true → partF (wBytes (linkW a b c d)) 0 5 = a ∧ partF (wBytes (linkW a b c d)) 5 6 = b ∧ partF (wBytes (linkW a b c d)) 11 6 = c ∧ partF (wBytes (linkW a b c d)) 17 3 = d := fun h => back4 (a := 5) (b := 6) (c := 6) (d := 3) rfl h
theorem mark_back (a b c d : Int) : wFit (markW a b c d) = true → partF (wBytes (markW a b c d)) 0 6 = a ∧ partF (wBytes (markW a b c d)) 6 6 = b ∧ partF (wBytes (markW a b c d)) 12 6 = c ∧ partF (wBytes (markW a b c d)) 18 2 = d := fun h => back4 (a := 6) (b := 6) (c := 6) (d := 2) rfl h

set_option maxRecDepth 100000 in
set_option maxHeartbeats 4000000 in
theorem puts_law (a0 a1 a2 a3 b0 b1 b2 b3 c0 c1 c2 c3 : Int) (w : World) :
    Calls Try.prog 7 #[.agg #[.int .i64 a0, .int .i64 a1, .int .i64 a2, .int .i64 a3], .agg #[.int .i64 b0, .int .i64 b1, .int .i64 b2, .int .i64 b3], .agg #[.int .i64 c0, .int .i64 c1, .int .i64 c2, .int .i64 c3]] w fun e w' => e = .returned (.bool true) ∧ Below w.heap.size w w' := by
  go_enter Try.func7, Try.ntmps7
  have HK0 := Lib.hid (three_new w #[.int .i64 a0, .int .i64 a1, .int .i64 a2, .int .i64 a3] #[.int .i64 b0, .int .i64 b1, .int .i64 b2, .int .i64 b3] #[.int .i64 c0, .int .i64 c1, .int .i64 c2, .int .i64 c3] 23 56 26)
  go_wp2_with (fail)
  refine (awake7 _).mono ?_
  rintro e w1 ⟨rfl, hb1⟩
  have HK1 := Lib.hid (three_below HK0.out.1 hb1)
  have HB1 := Lib.hid (HK0.out.2.trans (hb1.mono HK0.out.2.size))
  clear hb1 HK0
  have g0 := HK1.out.1.cell 0
  have g1 := HK1.out.1.cell 1
  have g2 := HK1.out.1.cell 2
  have g3 := HK1.out.1.cell 3
  go_wp2_with (fail)
  refine (placePut_any a0 a1 a2 a3 _).mono ?_
  rintro e w2 ⟨rfl, hb2⟩
  clear g0 g1 g2 g3
  have HK2 := Lib.hid (three_below HK1.out hb2)
  have HB2 := Lib.hid (HB1.out.trans (hb2.mono HB1.out.size))
  clear hb2 HK1 HB1
  have g0 := HK2.out.2.1.cell 0
  have g1 := HK2.out.2.1.cell 1
  have g2 := HK2.out.2.1.cell 2
  have g3 := HK2.out.2.1.cell 3
  go_wp2_with (fail)
  refine (linkPut_any b0 b1 b2 b3 _).mono ?_
  rintro e w3 ⟨rfl, hb3⟩
  clear g0 g1 g2 g3
  have HK3 := Lib.hid (three_below HK2.out hb3)
  have HB3 := Lib.hid (HB2.out.trans (hb3.mono HB2.out.size))
  clear hb3 HK2 HB2
  have g0 := HK3.out.2.2.cell 0
  have g1 := HK3.out.2.2.cell 1
  have g2 := HK3.out.2.2.cell 2
  have g3 := HK3.out.2.2.cell 3
  go_wp2_with (fail)
  refine (markPut_any c0 c1 c2 c3 _).mono ?_
  rintro e w4 ⟨rfl, hb4⟩
  clear g0 g1 g2 g3
  have HK4 := Lib.hid (three_below HK3.out hb4)
  have HB4 := Lib.hid (HB3.out.trans (hb4.mono HB3.out.size))
  clear hb4 HK3 HB3
  have g0 := HK4.out.1.cell 0
  have g1 := HK4.out.1.cell 1
  have g2 := HK4.out.1.cell 2
  have g3 := HK4.out.1.cell 3
  go_wp2_with (fail)
  refine (bytes_any (placeW a0 a1 a2 a3) _ rfl (by intro k hk; match k, hk with | 0, _ => exact (by decide : (6 : Nat) ≤ 7) | 1, _ => exact (by decide : (2 : Nat) ≤ 7) | 2, _ => exact (by decide : (5 : Nat) ≤ 7) | 3, _ => exact (by decide : (7 : Nat) ≤ 7))).mono ?_
  rintro e w5 ⟨rfl, hb5⟩
  clear g0 g1 g2 g3
  have HK5 := Lib.hid (three_below HK4.out hb5)
  have HB5 := Lib.hid (HB4.out.trans (hb5.mono HB4.out.size))
  clear hb5 HK4 HB4
  have g0 := HK5.out.2.1.cell 0
  have g1 := HK5.out.2.1.cell 1
  have g2 := HK5.out.2.1.cell 2
  have g3 := HK5.out.2.1.cell 3
  go_wp2_with (fail)
  refine (bytes_any (linkW b0 b1 b2 b3) _ rfl (by intro k hk; match k, hk with | 0, _ => exact (by decide : (5 : Nat) ≤ 7) | 1, _ => exact (by decide : (6 : Nat) ≤ 7) | 2, _ => exact (by decide : (6 : Nat) ≤ 7) | 3, _ => exact (by decide : (3 : Nat) ≤ 7))).mono ?_
  rintro e w6 ⟨rfl, hb6⟩
  clear g0 g1 g2 g3
  have HK6 := Lib.hid (three_below HK5.out hb6)
  have HB6 := Lib.hid (HB5.out.trans (hb6.mono HB5.out.size))
  clear hb6 HK5 HB5
  have g0 := HK6.out.2.2.cell 0
  have g1 := HK6.out.2.2.cell 1
  have g2 := HK6.out.2.2.cell 2
  have g3 := HK6.out.2.2.cell 3
  go_wp2_with (fail)
  refine (bytes_any (markW c0 c1 c2 c3) _ rfl (by intro k hk; match k, hk with | 0, _ => exact (by decide : (6 : Nat) ≤ 7) | 1, _ => exact (by decide : (6 : Nat) ≤ 7) | 2, _ => exact (by decide : (6 : Nat) ≤ 7) | 3, _ => exact (by decide : (2 : Nat) ≤ 7))).mono ?_
  rintro e w7 ⟨rfl, hb7⟩
  clear g0 g1 g2 g3
  have HK7 := Lib.hid (three_below HK6.out hb7)
  have HB7 := Lib.hid (HB6.out.trans (hb7.mono HB6.out.size))
  clear hb7 HK6 HB6
  have hd0 := Lib.hid (place_len a0 a1 a2 a3)
  have hd1 := Lib.hid (link_len b0 b1 b2 b3)
  have hd2 := Lib.hid (mark_len c0 c1 c2 c3)
  have hv0 := Lib.hid (place_back a0 a1 a2 a3)
  have hv1 := Lib.hid (link_back b0 b1 b2 b3)
  have hv2 := Lib.hid (mark_back c0 c1 c2 c3)
  generalize hl0 : wBytes (placeW a0 a1 a2 a3) = l0 at *
  generalize wFit (placeW a0 a1 a2 a3) = f0 at *
  clear hl0
  generalize hl1 : wBytes (linkW b0 b1 b2 b3) = l1 at *
  generalize wFit (linkW b0 b1 b2 b3) = f1 at *
  clear hl1
  generalize hl2 : wBytes (markW c0 c1 c2 c3) = l2 at *
  generalize wFit (markW c0 c1 c2 c3) = f2 at *
  clear hl2
  go_wp2_with (fail)
  refine (getPlace_any l0 _).mono ?_
  rintro e w8 ⟨rfl, hb8⟩
  rw [hd0.out]
  have HK8 := Lib.hid (three_below HK7.out hb8)
  have HB8 := Lib.hid (HB7.out.trans (hb8.mono HB7.out.size))
  clear hb8 HK7 HB7
  generalize hy : partF l0 0 6 = y00 at *
  clear hy
  generalize hy : partF l0 6 2 = y01 at *
  clear hy
  generalize hy : partF l0 8 5 = y02 at *
  clear hy
  generalize hy : partF l0 13 7 = y03 at *
  clear hy
  have HK8' := Lib.hid (three_below HK8.out (alloc_below w8 (.cells #[.int .i64 y00, .int .i64 y01, .int .i64 y02, .int .i64 y03] 23)))
  have HB8' := Lib.hid (HB8.out.alloc HB8.out.size (.cells #[.int .i64 y00, .int .i64 y01, .int .i64 y02, .int .i64 y03] 23))
  have HD0 := Lib.hid (Blk.new w8 #[.int .i64 y00, .int .i64 y01, .int .i64 y02, .int .i64 y03] 23)
  clear HK8 HB8
  go_wp2_with (fail)
  refine (getLink_any l1 _).mono ?_
  rintro e w9 ⟨rfl, hb9⟩
  rw [hd1.out]
  have HK9 := Lib.hid (three_below HK8'.out hb9)
  have HB9 := Lib.hid (HB8'.out.trans (hb9.mono HB8'.out.size))
  have HD0 := Lib.hid (HD0.out.below hb9)
  generalize w8.heap.size = d0 at *
  clear hb9 HK8' HB8'
  generalize hy : partF l1 0 5 = y10 at *
  clear hy
  generalize hy : partF l1 5 6 = y11 at *
  clear hy
  generalize hy : partF l1 11 6 = y12 at *
  clear hy
  generalize hy : partF l1 17 3 = y13 at *
  clear hy
  have HK9' := Lib.hid (three_below HK9.out (alloc_below w9 (.cells #[.int .i64 y10, .int .i64 y11, .int .i64 y12, .int .i64 y13] 56)))
  have HB9' := Lib.hid (HB9.out.alloc HB9.out.size (.cells #[.int .i64 y10, .int .i64 y11, .int .i64 y12, .int .i64 y13] 56))
  have HD0 := Lib.hid (HD0.out.alloc (.cells #[.int .i64 y10, .int .i64 y11, .int .i64 y12, .int .i64 y13] 56))
  have HD1 := Lib.hid (Blk.new w9 #[.int .i64 y10, .int .i64 y11, .int .i64 y12, .int .i64 y13] 56)
  clear HK9 HB9
  go_wp2_with (fail)
  refine (getMark_any l2 _).mono ?_
  rintro e w10 ⟨rfl, hb10⟩
  rw [hd2.out]
  have HK10 := Lib.hid (three_below HK9'.out hb10)
  have HB10 := Lib.hid (HB9'.out.trans (hb10.mono HB9'.out.size))
  have HD0 := Lib.hid (HD0.out.below hb10)
  have HD1 := Lib.hid (HD1.out.below hb10)
  generalize w9.heap.size = d1 at *
  clear hb10 HK9' HB9'
  generalize hy : partF l2 0 6 = y20 at *
  clear hy
  generalize hy : partF l2 6 6 = y21 at *
  clear hy
  generalize hy : partF l2 12 6 = y22 at *
  clear hy
  generalize hy : partF l2 18 2 = y23 at *
  clear hy
  have HK := Lib.hid (three_below HK10.out (alloc_below w10 (.cells #[.int .i64 y20, .int .i64 y21, .int .i64 y22, .int .i64 y23] 26)))
  have HB := Lib.hid (HB10.out.alloc HB10.out.size (.cells #[.int .i64 y20, .int .i64 y21, .int .i64 y22, .int .i64 y23] 26))
  have HD0 := Lib.hid (HD0.out.alloc (.cells #[.int .i64 y20, .int .i64 y21, .int .i64 y22, .int .i64 y23] 26))
  have HD1 := Lib.hid (HD1.out.alloc (.cells #[.int .i64 y20, .int .i64 y21, .int .i64 y22, .int .i64 y23] 26))
  have HD2 := Lib.hid (Blk.new w10 #[.int .i64 y20, .int .i64 y21, .int .i64 y22, .int .i64 y23] 26)
  clear HK10 HB10
  go_upto_region 14 with (fail)
  generalize hW : w10.alloc (.cells #[.int .i64 y20, .int .i64 y21, .int .i64 y22, .int .i64 y23] 26) = W at *
  clear hW
  cases f0 <;> cases f1 <;> cases f2
  · go_wp2
    go_ret
    exact ⟨rfl, HB.out⟩
  · obtain ⟨rfl, rfl, rfl, rfl⟩ := hv2.out rfl
    have k20 := HK.out.2.2.cell 0
    have k21 := HK.out.2.2.cell 1
    have k22 := HK.out.2.2.cell 2
    have k23 := HK.out.2.2.cell 3
    have e20 := HD2.out.cell 0
    have e21 := HD2.out.cell 1
    have e22 := HD2.out.cell 2
    have e23 := HD2.out.cell 3
    go_wp2
    go_ret
    exact ⟨rfl, HB.out⟩
  · obtain ⟨rfl, rfl, rfl, rfl⟩ := hv1.out rfl
    have k10 := HK.out.2.1.cell 0
    have k11 := HK.out.2.1.cell 1
    have k12 := HK.out.2.1.cell 2
    have k13 := HK.out.2.1.cell 3
    have e10 := HD1.out.cell 0
    have e11 := HD1.out.cell 1
    have e12 := HD1.out.cell 2
    have e13 := HD1.out.cell 3
    go_wp2
    go_ret
    exact ⟨rfl, HB.out⟩
  · obtain ⟨rfl, rfl, rfl, rfl⟩ := hv1.out rfl
    have k10 := HK.out.2.1.cell 0
    have k11 := HK.out.2.1.cell 1
    have k12 := HK.out.2.1.cell 2
    have k13 := HK.out.2.1.cell 3
    have e10 := HD1.out.cell 0
    have e11 := HD1.out.cell 1
    have e12 := HD1.out.cell 2
    have e13 := HD1.out.cell 3
    obtain ⟨rfl, rfl, rfl, rfl⟩ := hv2.out rfl
    have k20 := HK.out.2.2.cell 0
    have k21 := HK.out.2.2.cell 1
    have k22 := HK.out.2.2.cell 2
    have k23 := HK.out.2.2.cell 3
    have e20 := HD2.out.cell 0
    have e21 := HD2.out.cell 1
    have e22 := HD2.out.cell 2
    have e23 := HD2.out.cell 3
    go_wp2
    go_ret
    exact ⟨rfl, HB.out⟩
  · obtain ⟨rfl, rfl, rfl, rfl⟩ := hv0.out rfl
    have k00 := HK.out.1.cell 0
    have k01 := HK.out.1.cell 1
    have k02 := HK.out.1.cell 2
    have k03 := HK.out.1.cell 3
    have e00 := HD0.out.cell 0
    have e01 := HD0.out.cell 1
    have e02 := HD0.out.cell 2
    have e03 := HD0.out.cell 3
    go_wp2
    go_ret
    exact ⟨rfl, HB.out⟩
  · obtain ⟨rfl, rfl, rfl, rfl⟩ := hv0.out rfl
    have k00 := HK.out.1.cell 0
    have k01 := HK.out.1.cell 1
    have k02 := HK.out.1.cell 2
    have k03 := HK.out.1.cell 3
    have e00 := HD0.out.cell 0
    have e01 := HD0.out.cell 1
    have e02 := HD0.out.cell 2
    have e03 := HD0.out.cell 3
    obtain ⟨rfl, rfl, rfl, rfl⟩ := hv2.out rfl
    have k20 := HK.out.2.2.cell 0
    have k21 := HK.out.2.2.cell 1
    have k22 := HK.out.2.2.cell 2
    have k23 := HK.out.2.2.cell 3
    have e20 := HD2.out.cell 0
    have e21 := HD2.out.cell 1
    have e22 := HD2.out.cell 2
    have e23 := HD2.out.cell 3
    go_wp2
    go_ret
    exact ⟨rfl, HB.out⟩
  · obtain ⟨rfl, rfl, rfl, rfl⟩ := hv0.out rfl
    have k00 := HK.out.1.cell 0
    have k01 := HK.out.1.cell 1
    have k02 := HK.out.1.cell 2
    have k03 := HK.out.1.cell 3
    have e00 := HD0.out.cell 0
    have e01 := HD0.out.cell 1
    have e02 := HD0.out.cell 2
    have e03 := HD0.out.cell 3
    obtain ⟨rfl, rfl, rfl, rfl⟩ := hv1.out rfl
    have k10 := HK.out.2.1.cell 0
    have k11 := HK.out.2.1.cell 1
    have k12 := HK.out.2.1.cell 2
    have k13 := HK.out.2.1.cell 3
    have e10 := HD1.out.cell 0
    have e11 := HD1.out.cell 1
    have e12 := HD1.out.cell 2
    have e13 := HD1.out.cell 3
    go_wp2
    go_ret
    exact ⟨rfl, HB.out⟩
  · obtain ⟨rfl, rfl, rfl, rfl⟩ := hv0.out rfl
    have k00 := HK.out.1.cell 0
    have k01 := HK.out.1.cell 1
    have k02 := HK.out.1.cell 2
    have k03 := HK.out.1.cell 3
    have e00 := HD0.out.cell 0
    have e01 := HD0.out.cell 1
    have e02 := HD0.out.cell 2
    have e03 := HD0.out.cell 3
    obtain ⟨rfl, rfl, rfl, rfl⟩ := hv1.out rfl
    have k10 := HK.out.2.1.cell 0
    have k11 := HK.out.2.1.cell 1
    have k12 := HK.out.2.1.cell 2
    have k13 := HK.out.2.1.cell 3
    have e10 := HD1.out.cell 0
    have e11 := HD1.out.cell 1
    have e12 := HD1.out.cell 2
    have e13 := HD1.out.cell 3
    obtain ⟨rfl, rfl, rfl, rfl⟩ := hv2.out rfl
    have k20 := HK.out.2.2.cell 0
    have k21 := HK.out.2.2.cell 1
    have k22 := HK.out.2.2.cell 2
    have k23 := HK.out.2.2.cell 3
    have e20 := HD2.out.cell 0
    have e21 := HD2.out.cell 1
    have e22 := HD2.out.cell 2
    have e23 := HD2.out.cell 3
    go_wp2
    go_ret
    exact ⟨rfl, HB.out⟩

end Go.Proofs.Ytdiebameocbahaa

