/- Layer 22's law: SendSends. -/
import Derived.Test.YtnacjogdndggeaaGreatDoorZ34
import Derived.Test.YtnacjogdndggeaaGreatDoorZ35
import Derived.Test.YtnacjogdndggeaaGreatDoorZ36
import Derived.Test.YtnacjogdndggeaaGreatDoorZ12
import Derived.Test.YtnacjogdndggeaaGreatDoorY03
section
namespace Go.Proofs.YtnacjogdndggeaaGreatDoor
open Go.Shelf Go.RowKit Go.Lib
set_option maxRecDepth 100000
set_option maxHeartbeats 4000000

theorem greatF_one (x : WantR) : greatF [x] = greatW x := by
  show (greatW x || false) = greatW x
  rw [Bool.or_false]
theorem greatW_keys10 {x : WantR} (h : greatW x = false) : x.keys.length ≤ 10 := by
  unfold greatW bigW at h
  simp at h
  exact h.1.2.2.1
theorem wsa_one {w : World} {b : Nat} {x : WantR} {A : Option Addr} {c : Nat} (h : Blk w b (wantV x A c) 33) (hr : RSa w A x.keys) (hc : x.keys.length ≤ c) : WsA w (some ⟨b, 0, none⟩) [x] := fun j hj => by
  have hj0 : j = 0 := by simpa using hj
  subst hj0
  exact ⟨b, 0, A, c, rfl, ⟨h.cell 0, h.cell 1, h.cell 2, h.cell 3, h.cell 4⟩, hr, hc⟩
theorem nsa_one {w : World} {b n : Nat} {t : TypeId} (h : Blk w b #[.int .i64 (n : Int)] t) : NSa w (some ⟨b, 0, none⟩) [n] := fun j hj => by
  have hj0 : j = 0 := by simpa using hj
  subst hj0
  exact ⟨b, 0, rfl, h.cell 0⟩
theorem cap_u8 {full : Int} (h0 : 0 ≤ full) (h1 : full ≤ 255) : 65281 ≤ capF (65536 - full) := by
  unfold capF
  omega

theorem SendSends_any {w : World} {A : Option Addr} {c : Nat} {x : WantR} {now at' full : Int} (ht : Tab (fun _ => 0) w) (hr : RSa w A x.keys) (hcap : x.keys.length ≤ c) (f0 : 0 ≤ full) (f1 : full ≤ 255) (sy : Bool) :
    Calls Tryz.prog 4 #[.agg (wantV x A c), .agg #[.int .i64 now, .int .i64 at', .bool sy, .int .u8 full]] w fun e w' => e = .returned (.bool true) ∧ Below w.heap.size w w' := by
  have hB0 := (Below.refl w.heap.size w).alloc (Nat.le_refl _) (.cells #[.string (S x.topic), .int .i64 x.queue, .string (S x.tag), .slice A x.keys.length c, .string (S x.body)] 33)
  have hB1 := hB0.alloc hB0.size (.cells #[.int .i64 now, .int .i64 at', .bool sy, .int .u8 full] 62)
  have hM0 := (Blk.new w #[.string (S x.topic), .int .i64 x.queue, .string (S x.tag), .slice A x.keys.length c, .string (S x.body)] 33).alloc (.cells #[.int .i64 now, .int .i64 at', .bool sy, .int .u8 full] 62)
  have hM1 := Blk.new (w.alloc (.cells #[.string (S x.topic), .int .i64 x.queue, .string (S x.tag), .slice A x.keys.length c, .string (S x.body)] 33)) #[.int .i64 now, .int .i64 at', .bool sy, .int .u8 full] 62
  rw [show (w.alloc (.cells #[.string (S x.topic), .int .i64 x.queue, .string (S x.tag), .slice A x.keys.length c, .string (S x.body)] 33)).heap.size = w.heap.size + 1 by simp] at hM1
  have hT1 := ht.below hB1
  have hr1 := hr.below hB1
  have HV : Hid (wantV x A c = #[.string (S x.topic), .int .i64 x.queue, .string (S x.tag), .slice A x.keys.length c, .string (S x.body)]) := rfl
  clear ht hr hB0
  rw [HV.out]
  go_enter Tryz.func4, Tryz.ntmps4
  go_upto_region 1 with (fail)
  generalize (w.alloc (.cells #[.string (S x.topic), .int .i64 x.queue, .string (S x.tag), .slice A x.keys.length c, .string (S x.body)] 33)).alloc (.cells #[.int .i64 now, .int .i64 at', .bool sy, .int .u8 full] 62) = w1 at *
  have HB1 := Lib.hid hB1
  have HT := Lib.hid hT1
  have HBW := Lib.hid (fun (W : World) (χ' : Col) (s : Stp (· ≠ 0) (fun _ => 0) w1 χ' W) => And.intro (hM0.below (s.below (fun k _ h => h rfl))) (And.intro (hM1.below (s.below (fun k _ h => h rfl))) (And.intro (hr1.below (s.below (fun k _ h => h rfl))) (s.below (fun k _ h => h rfl)))))
  clear hB1 hT1 hM0 hM1 hr1
  have hAw := awake_any HT.out
  go_wp2_with (fail)
  refine hAw.mono ?_
  rintro e w2 ⟨rfl, hb⟩
  have HS2 := Lib.hid (Stp.of_below (C := (· ≠ 0)) (χ := fun _ => 0) hb)
  clear hAw hb
  obtain ⟨p0, p1, p2, p3⟩ := HBW.out w2 _ HS2.out
  have hGn := (Below.refl w2.heap.size w2).alloc (Nat.le_refl _) (.cells #[.string (S x.topic), .int .i64 x.queue, .string (S x.tag), .slice A x.keys.length c, .string (S x.body)] 33)
  have hGr := Great_any (some ⟨w2.heap.size, 0, none⟩) 1 [x] (w2.alloc (.cells #[.string (S x.topic), .int .i64 x.queue, .string (S x.tag), .slice A x.keys.length c, .string (S x.body)] 33)) (wsa_one (A := A) (c := c) (Blk.new w2 #[.string (S x.topic), .int .i64 x.queue, .string (S x.tag), .slice A x.keys.length c, .string (S x.body)] 33) (p2.below hGn) hcap) (by simp)
  rw [greatF_one] at hGr
  have HGn := Lib.hid hGn
  have q0 := p0.cell 0
  have q1 := p0.cell 1
  have q2 := p0.cell 2
  have q3 := p0.cell 3
  have q4 := p0.cell 4
  clear p0 p1 p2 p3 hGn
  go_wp2_with (fail)
  refine hGr.mono ?_
  rintro e w3 ⟨rfl, hb⟩
  have HS3 := Lib.hid (HS2.out.trans (Stp.of_below (HGn.out.trans (hb.mono HGn.out.size))))
  clear hGr hb q0 q1 q2 q3 q4 HGn HS2
  cases hg : greatW x with
  | true =>
    clear hg
    go_wp2_with (fail)
    go_ret
    exact ⟨rfl, HB1.out.trans ((HBW.out w3 _ HS3.out).2.2.2.mono HB1.out.size)⟩
  | false =>
    have HG := Lib.hid hg
    clear hg
    obtain ⟨p0, p1, p2, p3⟩ := HBW.out w3 _ HS3.out
    have n0c := p1.cell 0
    have n3c := p1.cell 3
    clear p0 p1 p2 p3
    by_cases n0 : now < 0
    · have d0 : decide (now < 0) = true := decide_eq_true n0
      go_wp2_with (fail)
      go_ret
      exact ⟨rfl, HB1.out.trans ((HBW.out w3 _ HS3.out).2.2.2.mono HB1.out.size)⟩
    have d0 : decide (now < 0) = false := decide_eq_false n0
    by_cases n1 : 1099511626776 < now
    · have d1 : decide ((1099511626776 : Int) < now) = true := decide_eq_true n1
      go_wp2_with (fail)
      go_ret
      exact ⟨rfl, HB1.out.trans ((HBW.out w3 _ HS3.out).2.2.2.mono HB1.out.size)⟩
    have d1 : decide ((1099511626776 : Int) < now) = false := decide_eq_false n1
    have hN := diskNew_any (fun _ => 0) 1 (65536 - full) w3
    have i1 : IntKind.i64.wrap full = full := by
      simp [IntKind.wrap, IntKind.signed, IntKind.bits]
      omega
    go_wp2_with (fail)
    refine hN.mono ?_
    rintro e w4 ⟨rfl, hd, hb⟩
    have hcp := cap_u8 f0 f1
    unfold dskNew at hd
    generalize capF (65536 - full) = cap at *
    have st4 := (HS3.out.trans (Stp.of_below hb)).paint (n := w3.heap.size) HS3.out.size 1
    have hM := Made_any (now := now) hd (HT.out.stp st4 (by decide)) (by omega) (by omega) (by omega)
    have HS4 := Lib.hid st4
    have e0 := (HBW.out w4 _ st4).2.1.cell 0
    have HCap := Lib.hid hcp
    clear hN hd hb st4 hcp HS3 n0c n3c i1
    unfold ptr at hM
    generalize w3.heap.size + 1 = mn at *
    go_wp2_with (fail)
    refine hM.mono ?_
    rintro e w5 ⟨s, a, χ5, rfl, s5, hc5, rfl⟩
    have HS5 := Lib.hid (HS4.out.trans s5)
    have HC5 := Lib.hid hc5
    clear hM s5 hc5 HS4 e0
    obtain ⟨p0, p1, p2, p3⟩ := HBW.out w5 _ HS5.out
    have hRi := Right_any x A c w5 p2 hcap HG.out
    rw [rightW_eq, HV.out] at hRi
    have q0 := p0.cell 0
    have q1 := p0.cell 1
    have q2 := p0.cell 2
    have q3 := p0.cell 3
    have q4 := p0.cell 4
    clear p0 p1 p2 p3
    go_wp2_with (fail)
    refine hRi.mono ?_
    rintro e w6 ⟨rfl, hb⟩
    have HS6 := Lib.hid (HS5.out.trans (Stp.of_below hb))
    have HC6 := Lib.hid (HC5.out.below hb)
    clear hRi hb HS5 HC5 q0 q1 q2 q3 q4
    have hk10 := greatW_keys10 HG.out
    obtain ⟨p0, p1, p2, p3⟩ := HBW.out w6 _ HS6.out
    have hCk := Check_any (c := c) HC6.out p2 (by omega) (by decide)
    rw [HV.out] at hCk
    unfold ptr at hCk
    have q0 := p0.cell 0
    have q1 := p0.cell 1
    have q2 := p0.cell 2
    have q3 := p0.cell 3
    have q4 := p0.cell 4
    clear p0 p1 p2 p3
    by_cases hE : sendE topL x = 0
    · have hR1 := right_of_send hE topL_right (kind := 1) (due := 0) (now := now) (.inl ⟨rfl, rfl⟩) (by omega) (by omega) (by omega) (by omega)
      have hA0 := ample0 (n := 2) (cap := cap) (by omega) (by have := HCap.out; omega)
      have hA1 := hA0.put hR1 (show (1 : Int) ≠ 0 by decide) sy
      have hW1 := TapeM.putD_waits hA0.good hR1 (show (1 : Int) ≠ 0 by decide) (by have := hA0.fin; omega) sy
      have hMem1 : ((tape0.row1 (recOf x 1 0 now)).fin, recOf x 1 0 now) ∈ (tape0.put (recOf x 1 0 now) sy).recs := by
        rw [TapeM.put_recs]
        simp
      have HSd := Lib.hid (fun (W : World) (χ' : Col) (h : Core χ' W s a now tape0 topL [] (dskT topL cap)) (hr : RSa W A x.keys) => Send_good (c := c) h hr (by omega) (by decide) hE topL_right (by omega) (by omega) hA0.ready sy)
      rw [HV.out] at HSd
      have HMem := Lib.hid hMem1
      have HA1 := Lib.hid hA1
      have hq : ∀ n : Nat, n = (tape0.putD (dskT topL cap) (recOf x 1 0 now) sy).waits.length → ((n : Int) == 0) = sy := fun n hn => by
        rw [← hn] at hW1
        rw [Bool.eq_iff_iff, ← hW1]
        simp
      have HQ := Lib.hid (hq _ rfl)
      clear hR1 hA0 hA1 hW1 hMem1 hq
      generalize tape0.put (recOf x 1 0 now) sy = T1 at *
      generalize tape0.putD (dskT topL cap) (recOf x 1 0 now) sy = D1 at *
      generalize (tape0.row1 (recOf x 1 0 now)).fin = id1 at *
      have HScl := Lib.hid (fun (W : World) (χ' : Col) (h : Core χ' W s a now T1 topL [] D1) (hr : RSa W A x.keys) (ha : now + 200 < at') => Schedule_late (c := c) h hr (by omega) (by decide) hE (by omega) (by omega) at' ha sy)
      have HScg := Lib.hid (fun (W : World) (χ' : Col) (h : Core χ' W s a now T1 topL [] D1) (hr : RSa W A x.keys) (ha : at' ≤ now + 200) => Schedule_good (c := c) h hr (by omega) (by decide) hE topL_right (by omega) (by omega) HA1.out.ready at' ha sy)
      rw [HV.out] at HScl HScg
      rw [hE] at hCk
      go_wp2_with (fail)
      refine hCk.mono ?_
      rintro e w7 ⟨rfl, hb⟩
      have HS7 := Lib.hid (HS6.out.trans (Stp.of_below hb))
      have HC7 := Lib.hid (HC6.out.below hb)
      clear hCk hb HS6 HC6 q0 q1 q2 q3 q4
      obtain ⟨p0, p1, p2, p3⟩ := HBW.out w7 _ HS7.out
      have hSd := HSd.out w7 _ HC7.out p2
      unfold ptr at hSd
      have q0 := p0.cell 0
      have q1 := p0.cell 1
      have q2 := p0.cell 2
      have q3 := p0.cell 3
      have q4 := p0.cell 4
      have s2 := p1.cell 2
      clear p0 p1 p2 p3
      go_wp2_with (fail)
      refine hSd.mono ?_
      rintro e w8 ⟨rfl, χ8, s8, hc8⟩
      have HS8 := Lib.hid (HS7.out.trans s8)
      have HC8 := Lib.hid hc8
      clear hSd s8 hc8 HS7 HC7 HSd q0 q1 q2 q3 q4 s2
      have e0 : w8.cell? ⟨s, 0, none⟩ = some (.pointer (some ⟨a.tp, 0, none⟩)) := HC8.out.own.1.cell 0
      have hRd := Read_tape HC8.out.tp HC8.out.dk HA1.out.good.ok HA1.out.good.on HC8.out.tab HMem.out (.inl rfl)
      go_wp2_with (fail)
      refine hRd.mono ?_
      rintro e w9 ⟨Am, cm, rfl, hrm, hb⟩
      have hB10 := (Below.refl w9.heap.size w9).alloc (Nat.le_refl _) (.cells (recV (recOf x 1 0 now) Am cm) 56)
      have hb2 := hb.trans (hB10.mono hb.size)
      have HS10 := Lib.hid (HS8.out.trans (Stp.of_below hb2))
      have HC10 := Lib.hid (HC8.out.below hb2)
      have HM10 := Lib.hid (Blk.new w9 (recV (recOf x 1 0 now) Am cm) 56)
      have hpp := HBW.out _ _ HS10.out
      have hLk := like_any x Am A cm c 1 0 now ((w9.alloc (.cells (recV (recOf x 1 0 now) Am cm) 56)).drew) (hrm.below hB10.drew) (hpp.2.2.1.below (Below.refl _ _).drew) (by omega)
      have HP10 := Lib.hid (And.intro hpp.1 hpp.2.1)
      rw [HV.out] at hLk
      clear hRd hb hB10 hb2 hrm e0 hpp HS8 HC8
      simp only [recV, recOf] at HM10 HP10 HC10 HS10 hLk ⊢
      go_upto_region 18 with (fail)
      generalize w9.alloc (.cells #[.int .i64 1, .int .i64 x.queue, .int .i64 0, .int .i64 0, .int .i64 0, .int .i64 now, .string (S x.topic), .string (S x.tag), .string (S x.body), .slice Am x.keys.length cm] 56) = w10 at *
      have e1 : w10.cell? ⟨w9.heap.size, 0, none⟩ = some (.int .i64 1) ∧ w10.cell? ⟨w9.heap.size, 1, none⟩ = some (.int .i64 x.queue) ∧ w10.cell? ⟨w9.heap.size, 2, none⟩ = some (.int .i64 0) ∧ w10.cell? ⟨w9.heap.size, 3, none⟩ = some (.int .i64 0) ∧ w10.cell? ⟨w9.heap.size, 4, none⟩ = some (.int .i64 0) ∧ w10.cell? ⟨w9.heap.size, 5, none⟩ = some (.int .i64 now) ∧ w10.cell? ⟨w9.heap.size, 6, none⟩ = some (.string (S x.topic)) ∧ w10.cell? ⟨w9.heap.size, 7, none⟩ = some (.string (S x.tag)) ∧ w10.cell? ⟨w9.heap.size, 8, none⟩ = some (.string (S x.body)) ∧ w10.cell? ⟨w9.heap.size, 9, none⟩ = some (.slice Am x.keys.length cm) ∧ w10.cell? ⟨w.heap.size, 0, none⟩ = some (.string (S x.topic)) ∧ w10.cell? ⟨w.heap.size, 1, none⟩ = some (.int .i64 x.queue) ∧ w10.cell? ⟨w.heap.size, 2, none⟩ = some (.string (S x.tag)) ∧ w10.cell? ⟨w.heap.size, 3, none⟩ = some (.slice A x.keys.length c) ∧ w10.cell? ⟨w.heap.size, 4, none⟩ = some (.string (S x.body)) ∧ w10.cell? ⟨w.heap.size + 1, 0, none⟩ = some (.int .i64 now) ∧ w10.cell? ⟨w.heap.size + 1, 2, none⟩ = some (.bool sy) := And.intro (HM10.out.cell 0) (And.intro (HM10.out.cell 1) (And.intro (HM10.out.cell 2) (And.intro (HM10.out.cell 3) (And.intro (HM10.out.cell 4) (And.intro (HM10.out.cell 5) (And.intro (HM10.out.cell 6) (And.intro (HM10.out.cell 7) (And.intro (HM10.out.cell 8) (And.intro (HM10.out.cell 9) (And.intro (HP10.out.1.cell 0) (And.intro (HP10.out.1.cell 1) (And.intro (HP10.out.1.cell 2) (And.intro (HP10.out.1.cell 3) (And.intro (HP10.out.1.cell 4) (And.intro (HP10.out.2.cell 0) (HP10.out.2.cell 2))))))))))))))))
      refine wp_region_held_drew (S := fun w' => w'.cell? ⟨w9.heap.size, 0, none⟩ = some (.int .i64 1) ∧ w'.cell? ⟨w9.heap.size, 1, none⟩ = some (.int .i64 x.queue) ∧ w'.cell? ⟨w9.heap.size, 2, none⟩ = some (.int .i64 0) ∧ w'.cell? ⟨w9.heap.size, 3, none⟩ = some (.int .i64 0) ∧ w'.cell? ⟨w9.heap.size, 4, none⟩ = some (.int .i64 0) ∧ w'.cell? ⟨w9.heap.size, 5, none⟩ = some (.int .i64 now) ∧ w'.cell? ⟨w9.heap.size, 6, none⟩ = some (.string (S x.topic)) ∧ w'.cell? ⟨w9.heap.size, 7, none⟩ = some (.string (S x.tag)) ∧ w'.cell? ⟨w9.heap.size, 8, none⟩ = some (.string (S x.body)) ∧ w'.cell? ⟨w9.heap.size, 9, none⟩ = some (.slice Am x.keys.length cm) ∧ w'.cell? ⟨w.heap.size, 0, none⟩ = some (.string (S x.topic)) ∧ w'.cell? ⟨w.heap.size, 1, none⟩ = some (.int .i64 x.queue) ∧ w'.cell? ⟨w.heap.size, 2, none⟩ = some (.string (S x.tag)) ∧ w'.cell? ⟨w.heap.size, 3, none⟩ = some (.slice A x.keys.length c) ∧ w'.cell? ⟨w.heap.size, 4, none⟩ = some (.string (S x.body)) ∧ w'.cell? ⟨w.heap.size + 1, 0, none⟩ = some (.int .i64 now) ∧ w'.cell? ⟨w.heap.size + 1, 2, none⟩ = some (.bool sy)) (by kernel_rfl) e1 (fun hHeld => ?_)
      have hWa := fun (W : World) (hb : Below w10.drew.heap.size w10.drew W) => Waits_any ((HC10.out.below ((Below.refl w10.heap.size w10).drew)).below hb).dk
      clear e1
      have hq := HQ.out
      refine wpAnyH_take (i := 0) (oi := ⟨some 78, _, _, _, _, _⟩) (v := ?_) rfl (by kernel_rfl) (by kernel_rfl) (by kernel_rfl) (fun _ _ _ h => h) (Or.inl ⟨by rfl, (by intro w hSw; (try dsimp only at hSw); go_simp; try with_reducible rfl)⟩) hHeld ?_
      try simp only [Act.put, List.setIfInBounds_toArray, List.set_cons_zero, List.set_cons_succ]
      refine wpAnyH_take (i := 1) (oi := ⟨some 79, _, _, _, _, _⟩) (v := ?_) rfl (by kernel_rfl) (by kernel_rfl) (by kernel_rfl) (fun _ _ _ h => h) (Or.inl ⟨by rfl, (by intro w hSw; (try dsimp only at hSw); go_simp; try with_reducible rfl)⟩) hHeld ?_
      try simp only [Act.put, List.setIfInBounds_toArray, List.set_cons_zero, List.set_cons_succ]
      refine wpAnyH_take (i := 2) (oi := ⟨some 80, _, _, _, _, _⟩) (v := ?_) rfl (by kernel_rfl) (by kernel_rfl) (by kernel_rfl) (fun _ _ _ h => h) (Or.inl ⟨by rfl, (by intro w hSw; (try dsimp only at hSw); go_simp; try with_reducible rfl)⟩) hHeld ?_
      try simp only [Act.put, List.setIfInBounds_toArray, List.set_cons_zero, List.set_cons_succ]
      refine wpAnyH_take (i := 3) (oi := ⟨some 81, _, _, _, _, _⟩) (v := ?_) rfl (by kernel_rfl) (by kernel_rfl) (by kernel_rfl) (fun _ _ _ h => h) (Or.inl ⟨by rfl, (by intro w hSw; (try dsimp only at hSw); go_simp; try with_reducible rfl)⟩) hHeld ?_
      try simp only [Act.put, List.setIfInBounds_toArray, List.set_cons_zero, List.set_cons_succ]
      refine wpAnyH_take (i := 4) (oi := ⟨some 82, _, _, _, _, _⟩) (v := ?_) rfl (by kernel_rfl) (by kernel_rfl) (by kernel_rfl) (fun _ _ _ h => h) (Or.inl ⟨by rfl, (by intro w hSw; (try dsimp only at hSw); go_simp; try with_reducible rfl)⟩) hHeld ?_
      try simp only [Act.put, List.setIfInBounds_toArray, List.set_cons_zero, List.set_cons_succ]
      refine wpAnyH_take (i := 5) (oi := ⟨some 83, _, _, _, _, _⟩) (v := ?_) rfl (by kernel_rfl) (by kernel_rfl) (by kernel_rfl) (fun _ _ _ h => h) (Or.inl ⟨by rfl, (by intro w hSw; (try dsimp only at hSw); go_simp; try with_reducible rfl)⟩) hHeld ?_
      try simp only [Act.put, List.setIfInBounds_toArray, List.set_cons_zero, List.set_cons_succ]
      refine wpAnyH_take (i := 6) (oi := ⟨some 84, _, _, _, _, _⟩) (v := ?_) rfl (by kernel_rfl) (by kernel_rfl) (by kernel_rfl) (fun _ _ _ h => h) (Or.inl ⟨by rfl, (by intro w hSw; (try dsimp only at hSw); go_simp; try with_reducible rfl)⟩) hHeld ?_
      try simp only [Act.put, List.setIfInBounds_toArray, List.set_cons_zero, List.set_cons_succ]
      refine wpAnyH_ready (rs := [7]) (by kernel_rfl) (by simp) ?_
      refine AllReadyH.cons (o := ⟨some 85, _, _, _, _, _⟩) rfl (fun K hK => ?_) AllReadyH.nil
      go_simp
      refine hLk.mono ?_
      rintro e w11 ⟨rfl, hb11⟩
      have hS2 := And.intro ((HM10.out.drew.below hb11).cell 0) (And.intro ((HM10.out.drew.below hb11).cell 1) (And.intro ((HM10.out.drew.below hb11).cell 2) (And.intro ((HM10.out.drew.below hb11).cell 3) (And.intro ((HM10.out.drew.below hb11).cell 4) (And.intro ((HM10.out.drew.below hb11).cell 5) (And.intro ((HM10.out.drew.below hb11).cell 6) (And.intro ((HM10.out.drew.below hb11).cell 7) (And.intro ((HM10.out.drew.below hb11).cell 8) (And.intro ((HM10.out.drew.below hb11).cell 9) (And.intro ((HP10.out.1.drew.below hb11).cell 0) (And.intro ((HP10.out.1.drew.below hb11).cell 1) (And.intro ((HP10.out.1.drew.below hb11).cell 2) (And.intro ((HP10.out.1.drew.below hb11).cell 3) (And.intro ((HP10.out.1.drew.below hb11).cell 4) (And.intro ((HP10.out.2.drew.below hb11).cell 0) ((HP10.out.2.drew.below hb11).cell 2))))))))))))))))
      refine hK.out _ _ hS2 (fun hHeld => ?_)
      clear hK K
      try simp only [Act.put, List.setIfInBounds_toArray, List.set_cons_zero, List.set_cons_succ]
      refine wpAnyH_take (i := 8) (oi := ⟨some 86, _, _, _, _, _⟩) (v := ?_) rfl (by kernel_rfl) (by kernel_rfl) (by kernel_rfl) (fun _ _ _ h => h) (Or.inl ⟨by rfl, (by intro w hSw; (try dsimp only at hSw); go_simp; try with_reducible rfl)⟩) hHeld ?_
      try simp only [Act.put, List.setIfInBounds_toArray, List.set_cons_zero, List.set_cons_succ]
      refine wpAnyH_take (i := 9) (oi := ⟨some 87, _, _, _, _, _⟩) (v := ?_) rfl (by kernel_rfl) (by kernel_rfl) (by kernel_rfl) (fun _ _ _ h => h) (Or.inl ⟨by rfl, (by intro w hSw; (try dsimp only at hSw); go_simp; try with_reducible rfl)⟩) hHeld ?_
      try simp only [Act.put, List.setIfInBounds_toArray, List.set_cons_zero, List.set_cons_succ]
      refine wpAnyH_take (i := 10) (oi := ⟨some 88, _, _, _, _, _⟩) (v := ?_) rfl (by kernel_rfl) (by kernel_rfl) (by kernel_rfl) (fun _ _ _ h => h) (Or.inl ⟨by rfl, (by intro w hSw; (try dsimp only at hSw); go_simp; try with_reducible rfl)⟩) hHeld ?_
      try simp only [Act.put, List.setIfInBounds_toArray, List.set_cons_zero, List.set_cons_succ]
      refine wpAnyH_take (i := 11) (oi := ⟨some 89, _, _, _, _, _⟩) (v := ?_) rfl (by kernel_rfl) (by kernel_rfl) (by kernel_rfl) (fun _ _ _ h => h) (Or.inl ⟨by rfl, (by intro w hSw; (try dsimp only at hSw); go_simp; try with_reducible rfl)⟩) hHeld ?_
      try simp only [Act.put, List.setIfInBounds_toArray, List.set_cons_zero, List.set_cons_succ]
      refine wpAnyH_take (i := 13) (oi := ⟨some 91, _, _, _, _, _⟩) (v := ?_) rfl (by kernel_rfl) (by kernel_rfl) (by kernel_rfl) (fun _ _ _ h => h) (Or.inl ⟨by rfl, (by intro w hSw; (try dsimp only at hSw); go_simp; try with_reducible rfl)⟩) hHeld ?_
      try simp only [Act.put, List.setIfInBounds_toArray, List.set_cons_zero, List.set_cons_succ]
      refine wpAnyH_take (i := 12) (oi := ⟨some 90, _, _, _, _, _⟩) (v := ?_) rfl (by kernel_rfl) (by kernel_rfl) (by kernel_rfl) (fun _ _ _ h => h) (Or.inl ⟨by rfl, (by intro w hSw; (try dsimp only at hSw); go_simp; try with_reducible rfl)⟩) hHeld ?_
      try simp only [Act.put, List.setIfInBounds_toArray, List.set_cons_zero, List.set_cons_succ]
      refine wpAnyH_ready (rs := [14]) (by kernel_rfl) (by simp) ?_
      refine AllReadyH.cons (o := ⟨some 92, _, _, _, _, _⟩) rfl (fun K hK => ?_) AllReadyH.nil
      go_simp
      refine (hWa w11 hb11).mono ?_
      rintro e w' ⟨rfl, rfl⟩
      have hS2 := hS2
      refine hK.out _ _ hS2 (fun hHeld => ?_)
      clear hK K
      try simp only [Act.put, List.setIfInBounds_toArray, List.set_cons_zero, List.set_cons_succ]
      refine wpAnyH_take (i := 15) (oi := ⟨some 93, _, _, _, _, _⟩) (v := ?_) rfl (by kernel_rfl) (by kernel_rfl) (by kernel_rfl) (fun _ _ _ h => h) (Or.inl ⟨by rfl, (by intro w hSw; (try dsimp only at hSw); go_simp; try with_reducible rfl)⟩) hHeld ?_
      try simp only [Act.put, List.setIfInBounds_toArray, List.set_cons_zero, List.set_cons_succ]
      refine wpAnyH_take (i := 16) (oi := ⟨some 94, _, _, _, _, _⟩) (v := ?_) rfl (by kernel_rfl) (by kernel_rfl) (by kernel_rfl) (fun _ _ _ h => h) (Or.inl ⟨by rfl, (by intro w hSw; (try dsimp only at hSw); go_simp; try with_reducible rfl)⟩) hHeld ?_
      try simp only [Act.put, List.setIfInBounds_toArray, List.set_cons_zero, List.set_cons_succ]
      refine wpAnyH_take (i := 17) (oi := ⟨some 95, _, _, _, _, _⟩) (v := ?_) rfl (by kernel_rfl) (by kernel_rfl) (by kernel_rfl) (fun _ _ _ h => h) (Or.inl ⟨by rfl, (by intro w hSw; (try dsimp only at hSw); go_simp; try with_reducible rfl)⟩) hHeld ?_
      try simp only [Act.put, List.setIfInBounds_toArray, List.set_cons_zero, List.set_cons_succ]
      refine wpAnyH_done (by kernel_rfl) ?_ _
      have hbd := (Below.refl w10.heap.size w10).drew.trans hb11
      have HS11 := Lib.hid (HS10.out.trans (Stp.of_below hbd))
      have HC11 := Lib.hid (HC10.out.below hbd)
      clear hHeld hS2 hbd hb11 hLk HM10 HP10 HS10 HC10 hq hWa
      obtain ⟨p0, p1, p2, p3⟩ := HBW.out w11 _ HS11.out
      have q0 := p0.cell 0
      have q1 := p0.cell 1
      have q2 := p0.cell 2
      have q3 := p0.cell 3
      have q4 := p0.cell 4
      have s0 := p1.cell 0
      have s1 := p1.cell 1
      have s2 := p1.cell 2
      have hEn := End_tape HC11.out.tp
      have e0 : w11.cell? ⟨s, 0, none⟩ = some (.pointer (some ⟨a.tp, 0, none⟩)) := HC11.out.own.1.cell 0
      have i2 : 0 ≤ now := by omega
      have i3 : now ≤ 1099511626776 := by omega
      by_cases ha : now + 200 < at'
      · have d2 : decide (now + 200 < at') = true := decide_eq_true ha
        have hSc := HScl.out w11 _ HC11.out p2 ha
        unfold ptr at hSc
        clear p0 p1 p2 p3 HScg HScl
        go_wp2_with (fail)
        refine hEn.mono ?_
        rintro e w' ⟨rfl, rfl⟩
        clear hEn
        go_wp2_with (fail)
        refine hSc.mono ?_
        rintro e w12 ⟨rfl, hb⟩
        have HS12 := Lib.hid (HS11.out.trans (Stp.of_below hb))
        have HC12 := Lib.hid (HC11.out.below hb)
        clear hSc hb HS11 HC11 q0 q1 q2 q3 q4 s0 s1 s2 e0
        obtain ⟨p0, p1, p2, p3⟩ := HBW.out w12 _ HS12.out
        have s0 := p1.cell 0
        have s1 := p1.cell 1
        clear p0 p1 p2 p3
        have e0 : w12.cell? ⟨s, 0, none⟩ = some (.pointer (some ⟨a.tp, 0, none⟩)) := HC12.out.own.1.cell 0
        have e6 : w12.cell? ⟨s, 6, none⟩ = some (.pointer (some ⟨a.pd, 0, none⟩)) := HC12.out.own.1.cell 6
        have hEn := End_tape HC12.out.tp
        have hPn := Pending_any (ids := []) HC12.out.pd rfl (by simp) (fun k hk => by cases hk) (fun k hk => by cases hk)
        go_wp2_with (fail)
        refine hEn.mono ?_
        rintro e w' ⟨rfl, rfl⟩
        clear hEn
        go_wp2_with (fail)
        refine hPn.mono ?_
        rintro e w13 ⟨A13, c13, rfl, _, hb⟩
        have HS13 := Lib.hid (HS12.out.trans (Stp.of_below hb))
        clear hPn hb
        go_wp2_with (fail)
        go_ret
        exact ⟨rfl, HB1.out.trans ((HBW.out w13 _ HS13.out).2.2.2.mono HB1.out.size)⟩
      · have d2 : decide (now + 200 < at') = false := decide_eq_false ha
        have hR2 := right_of_send hE topL_right (kind := 2) (due := max at' now) (now := now) (.inr rfl) (by omega) (by omega) (by omega) (by omega)
        have hA2 := HA1.out.put hR2 (show (2 : Int) ≠ 0 by decide) sy
        have hMem2 : ((T1.row1 (recOf x 2 (max at' now) now)).fin, recOf x 2 (max at' now) now) ∈ (T1.put (recOf x 2 (max at' now) now) sy).recs := by
          rw [TapeM.put_recs]
          simp
        have hid2 : (T1.row1 (recOf x 2 (max at' now) now)).fin ≤ 90000000 := by
          have h1 := TapeM.row1_fin T1 HA1.out.good.ok (recOf x 2 (max at' now) now)
          have h2 := TapeM.cost_le T1 HA1.out.good.ok hR2 (show (2 : Int) ≠ 0 by decide)
          have h3 := HA1.out.fin
          omega
        have hSc := HScg.out w11 _ HC11.out p2 (by omega)
        unfold ptr at hSc
        have HMem2 := Lib.hid hMem2
        have HA2 := Lib.hid hA2
        have HI2 := Lib.hid hid2
        clear p0 p1 p2 p3 HScg HScl hR2 hA2 hMem2 hid2
        generalize T1.put (recOf x 2 (max at' now) now) sy = T2 at *
        generalize T1.putD D1 (recOf x 2 (max at' now) now) sy = D2 at *
        generalize (T1.row1 (recOf x 2 (max at' now) now)).fin = id2 at *
        have HPd : Hid ((aput (Lit.int .i64) (id2 : Int) (1, max at' now) ([] : Pends)) = [((id2 : Int), (1, max at' now))]) := rfl
        rw [HPd.out] at hSc
        have hst : stateF [((id2 : Int), (1, max at' now))] (id2 : Int) = 1 := by simp [stateF, aget]
        have hdu : dueF [((id2 : Int), (1, max at' now))] (id2 : Int) = max at' now := by simp [dueF, hst, aget]
        have HSt := Lib.hid hst
        have HDu := Lib.hid hdu
        clear hst hdu
        go_wp2_with (fail)
        refine hEn.mono ?_
        rintro e w' ⟨rfl, rfl⟩
        clear hEn
        go_wp2_with (fail)
        refine hSc.mono ?_
        rintro e w12 ⟨rfl, χ12, s12, hc12⟩
        have HS12 := Lib.hid (HS11.out.trans s12)
        have HC12 := Lib.hid hc12
        clear hSc s12 hc12 HS11 HC11 q0 q1 q2 q3 q4 s0 s1 s2 e0
        obtain ⟨p0, p1, p2, p3⟩ := HBW.out w12 _ HS12.out
        have s0 := p1.cell 0
        have s1 := p1.cell 1
        clear p0 p1 p2 p3
        have e0 : w12.cell? ⟨s, 0, none⟩ = some (.pointer (some ⟨a.tp, 0, none⟩)) := HC12.out.own.1.cell 0
        have hRd := Read_tape HC12.out.tp HC12.out.dk HA2.out.good.ok HA2.out.good.on HC12.out.tab HMem2.out (.inr rfl)
        go_wp2_with (fail)
        refine hRd.mono ?_
        rintro e w13 ⟨Am2, cm2, rfl, hrm, hb⟩
        have hB14 := (Below.refl w13.heap.size w13).alloc (Nat.le_refl _) (.cells (recV (recOf x 2 (max at' now) now) Am2 cm2) 56)
        have hb2 := hb.trans (hB14.mono hb.size)
        have HS14 := Lib.hid (HS12.out.trans (Stp.of_below hb2))
        have HC14 := Lib.hid (HC12.out.below hb2)
        have HM14 := Lib.hid (Blk.new w13 (recV (recOf x 2 (max at' now) now) Am2 cm2) 56)
        have hpp := HBW.out _ _ HS14.out
        have hLk := like_any x Am2 A cm2 c 2 (max at' now) now ((w13.alloc (.cells (recV (recOf x 2 (max at' now) now) Am2 cm2) 56)).drew) (hrm.below hB14.drew) (hpp.2.2.1.below (Below.refl _ _).drew) (by omega)
        have HP14 := Lib.hid (And.intro hpp.1 hpp.2.1)
        rw [HV.out] at hLk
        clear hRd hb hB14 hb2 hrm e0 s0 s1 hpp HS12 HC12
        simp only [recV, recOf] at HM14 HP14 HC14 HS14 hLk ⊢
        go_upto_region 31 with (fail)
        generalize w13.alloc (.cells #[.int .i64 2, .int .i64 x.queue, .int .i64 (max at' now), .int .i64 0, .int .i64 0, .int .i64 now, .string (S x.topic), .string (S x.tag), .string (S x.body), .slice Am2 x.keys.length cm2] 56) = w14 at *
        have HSS : Hid (∀ w', Below w14.drew.heap.size w14.drew w' → Below w14.drew.heap.size w14.drew w' ∧ w'.cell? ⟨w13.heap.size, 0, none⟩ = some (.int .i64 2) ∧ w'.cell? ⟨w13.heap.size, 1, none⟩ = some (.int .i64 x.queue) ∧ w'.cell? ⟨w13.heap.size, 2, none⟩ = some (.int .i64 (max at' now)) ∧ w'.cell? ⟨w13.heap.size, 3, none⟩ = some (.int .i64 0) ∧ w'.cell? ⟨w13.heap.size, 4, none⟩ = some (.int .i64 0) ∧ w'.cell? ⟨w13.heap.size, 5, none⟩ = some (.int .i64 now) ∧ w'.cell? ⟨w13.heap.size, 6, none⟩ = some (.string (S x.topic)) ∧ w'.cell? ⟨w13.heap.size, 7, none⟩ = some (.string (S x.tag)) ∧ w'.cell? ⟨w13.heap.size, 8, none⟩ = some (.string (S x.body)) ∧ w'.cell? ⟨w13.heap.size, 9, none⟩ = some (.slice Am2 x.keys.length cm2) ∧ w'.cell? ⟨w.heap.size, 0, none⟩ = some (.string (S x.topic)) ∧ w'.cell? ⟨w.heap.size, 1, none⟩ = some (.int .i64 x.queue) ∧ w'.cell? ⟨w.heap.size, 2, none⟩ = some (.string (S x.tag)) ∧ w'.cell? ⟨w.heap.size, 3, none⟩ = some (.slice A x.keys.length c) ∧ w'.cell? ⟨w.heap.size, 4, none⟩ = some (.string (S x.body)) ∧ w'.cell? ⟨w.heap.size + 1, 0, none⟩ = some (.int .i64 now) ∧ w'.cell? ⟨w.heap.size + 1, 1, none⟩ = some (.int .i64 at') ∧ w'.cell? ⟨s, 6, none⟩ = some (.pointer (some ⟨a.pd, 0, none⟩))) := Lib.hid (fun w' hb31 => And.intro (hb31) (And.intro ((HM14.out.drew.below hb31).cell 0) (And.intro ((HM14.out.drew.below hb31).cell 1) (And.intro ((HM14.out.drew.below hb31).cell 2) (And.intro ((HM14.out.drew.below hb31).cell 3) (And.intro ((HM14.out.drew.below hb31).cell 4) (And.intro ((HM14.out.drew.below hb31).cell 5) (And.intro ((HM14.out.drew.below hb31).cell 6) (And.intro ((HM14.out.drew.below hb31).cell 7) (And.intro ((HM14.out.drew.below hb31).cell 8) (And.intro ((HM14.out.drew.below hb31).cell 9) (And.intro ((HP14.out.1.drew.below hb31).cell 0) (And.intro ((HP14.out.1.drew.below hb31).cell 1) (And.intro ((HP14.out.1.drew.below hb31).cell 2) (And.intro ((HP14.out.1.drew.below hb31).cell 3) (And.intro ((HP14.out.1.drew.below hb31).cell 4) (And.intro ((HP14.out.2.drew.below hb31).cell 0) (And.intro ((HP14.out.2.drew.below hb31).cell 1) ((((HC14.out.below ((Below.refl w14.heap.size w14).drew)).below hb31).own.1.cell 6))))))))))))))))))))
        have hPn := Lib.hid (fun (W : World) (hb : Below w14.drew.heap.size w14.drew W) => Pending_any (ids := [id2]) ((HC14.out.below ((Below.refl w14.heap.size w14).drew)).below hb).pd rfl (by simp) (fun k hk => by rw [List.mem_singleton.1 hk]; exact HSt.out) (fun k hk => by rw [List.mem_singleton.1 hk]; exact HI2.out))
        have hDu := Lib.hid (fun (W : World) (hb : Below w14.drew.heap.size w14.drew W) => Due_any ((HC14.out.below ((Below.refl w14.heap.size w14).drew)).below hb).pd (id2 : Int) (by omega) (by have := HI2.out; omega))
        rw [HDu.out] at hDu
        have e1 := HSS.out _ (Below.refl w14.drew.heap.size w14.drew)
        refine wp_region_held_drew (S := fun w' => Below w14.drew.heap.size w14.drew w' ∧ w'.cell? ⟨w13.heap.size, 0, none⟩ = some (.int .i64 2) ∧ w'.cell? ⟨w13.heap.size, 1, none⟩ = some (.int .i64 x.queue) ∧ w'.cell? ⟨w13.heap.size, 2, none⟩ = some (.int .i64 (max at' now)) ∧ w'.cell? ⟨w13.heap.size, 3, none⟩ = some (.int .i64 0) ∧ w'.cell? ⟨w13.heap.size, 4, none⟩ = some (.int .i64 0) ∧ w'.cell? ⟨w13.heap.size, 5, none⟩ = some (.int .i64 now) ∧ w'.cell? ⟨w13.heap.size, 6, none⟩ = some (.string (S x.topic)) ∧ w'.cell? ⟨w13.heap.size, 7, none⟩ = some (.string (S x.tag)) ∧ w'.cell? ⟨w13.heap.size, 8, none⟩ = some (.string (S x.body)) ∧ w'.cell? ⟨w13.heap.size, 9, none⟩ = some (.slice Am2 x.keys.length cm2) ∧ w'.cell? ⟨w.heap.size, 0, none⟩ = some (.string (S x.topic)) ∧ w'.cell? ⟨w.heap.size, 1, none⟩ = some (.int .i64 x.queue) ∧ w'.cell? ⟨w.heap.size, 2, none⟩ = some (.string (S x.tag)) ∧ w'.cell? ⟨w.heap.size, 3, none⟩ = some (.slice A x.keys.length c) ∧ w'.cell? ⟨w.heap.size, 4, none⟩ = some (.string (S x.body)) ∧ w'.cell? ⟨w.heap.size + 1, 0, none⟩ = some (.int .i64 now) ∧ w'.cell? ⟨w.heap.size + 1, 1, none⟩ = some (.int .i64 at') ∧ w'.cell? ⟨s, 6, none⟩ = some (.pointer (some ⟨a.pd, 0, none⟩))) (by kernel_rfl) e1 (fun hHeld => ?_)
        clear e1
        have HNw := Lib.hid (fun (W : World) (_ : Below w14.drew.heap.size w14.drew W) => nsa_one (Blk.new W #[.int .i64 (id2 : Int)] 3))
        have HAl := Lib.hid (fun (W : World) (_ : Below w14.drew.heap.size w14.drew W) => (Below.refl W.heap.size W).alloc (Nat.le_refl _) (.cells #[.int .i64 (id2 : Int)] 3))
        have HIn : Hid (∀ (W : World) (Aa Ab : Option Addr) (cp : Nat), NSa W Aa [id2] → NSa W Ab [id2] → Calls Tryz.prog 12 #[.slice Aa 1 cp, .slice Ab 1 1] W fun e w' => e = .returned (.bool true) ∧ Below W.heap.size W w') := Lib.hid (fun W Aa Ab cp h1 h2 => Ints_one Aa Ab cp 1 [id2] W h1 h2 (by simp))
        refine wpAnyH_take (i := 0) (oi := ⟨some 157, _, _, _, _, _⟩) (v := ?_) rfl (by kernel_rfl) (by kernel_rfl) (by kernel_rfl) (fun _ _ _ h => h) (Or.inl ⟨by rfl, (by intro w hSw; (try dsimp only at hSw); go_simp; try with_reducible rfl)⟩) hHeld ?_
        try simp only [Act.put, List.setIfInBounds_toArray, List.set_cons_zero, List.set_cons_succ]
        refine wpAnyH_take (i := 1) (oi := ⟨some 158, _, _, _, _, _⟩) (v := ?_) rfl (by kernel_rfl) (by kernel_rfl) (by kernel_rfl) (fun _ _ _ h => h) (Or.inl ⟨by rfl, (by intro w hSw; (try dsimp only at hSw); go_simp; try with_reducible rfl)⟩) hHeld ?_
        try simp only [Act.put, List.setIfInBounds_toArray, List.set_cons_zero, List.set_cons_succ]
        refine wpAnyH_take (i := 2) (oi := ⟨some 159, _, _, _, _, _⟩) (v := ?_) rfl (by kernel_rfl) (by kernel_rfl) (by kernel_rfl) (fun _ _ _ h => h) (Or.inl ⟨by rfl, (by intro w hSw; (try dsimp only at hSw); go_simp; try with_reducible rfl)⟩) hHeld ?_
        try simp only [Act.put, List.setIfInBounds_toArray, List.set_cons_zero, List.set_cons_succ]
        refine wpAnyH_take (i := 3) (oi := ⟨some 160, _, _, _, _, _⟩) (v := ?_) rfl (by kernel_rfl) (by kernel_rfl) (by kernel_rfl) (fun _ _ _ h => h) (Or.inl ⟨by rfl, (by intro w hSw; (try dsimp only at hSw); go_simp; try with_reducible rfl)⟩) hHeld ?_
        try simp only [Act.put, List.setIfInBounds_toArray, List.set_cons_zero, List.set_cons_succ]
        refine wpAnyH_take (i := 4) (oi := ⟨some 161, _, _, _, _, _⟩) (v := ?_) rfl (by kernel_rfl) (by kernel_rfl) (by kernel_rfl) (fun _ _ _ h => h) (Or.inl ⟨by rfl, (by intro w hSw; (try dsimp only at hSw); go_simp; try with_reducible rfl)⟩) hHeld ?_
        try simp only [Act.put, List.setIfInBounds_toArray, List.set_cons_zero, List.set_cons_succ]
        refine wpAnyH_take (i := 5) (oi := ⟨some 162, _, _, _, _, _⟩) (v := ?_) rfl (by kernel_rfl) (by kernel_rfl) (by kernel_rfl) (fun _ _ _ h => h) (Or.inl ⟨by rfl, (by intro w hSw; (try dsimp only at hSw); go_simp; try with_reducible rfl)⟩) hHeld ?_
        try simp only [Act.put, List.setIfInBounds_toArray, List.set_cons_zero, List.set_cons_succ]
        refine wpAnyH_take (i := 7) (oi := ⟨some 164, _, _, _, _, _⟩) (v := ?_) rfl (by kernel_rfl) (by kernel_rfl) (by kernel_rfl) (fun _ _ _ h => h) (Or.inl ⟨by rfl, (by intro w hSw; (try dsimp only at hSw); go_simp; try with_reducible rfl)⟩) hHeld ?_
        try simp only [Act.put, List.setIfInBounds_toArray, List.set_cons_zero, List.set_cons_succ]
        refine wpAnyH_take (i := 10) (oi := ⟨some 167, _, _, _, _, _⟩) (v := ?_) rfl (by kernel_rfl) (by kernel_rfl) (by kernel_rfl) (fun _ _ _ h => h) (Or.inl ⟨by rfl, (by intro w hSw; (try dsimp only at hSw); go_simp; try with_reducible rfl)⟩) hHeld ?_
        try simp only [Act.put, List.setIfInBounds_toArray, List.set_cons_zero, List.set_cons_succ]
        refine wpAnyH_take (i := 6) (oi := ⟨some 163, _, _, _, _, _⟩) (v := ?_) rfl (by kernel_rfl) (by kernel_rfl) (by kernel_rfl) (fun _ _ _ h => h) (Or.inl ⟨by rfl, (by intro w hSw; (try dsimp only at hSw); go_simp; try with_reducible rfl)⟩) hHeld ?_
        try simp only [Act.put, List.setIfInBounds_toArray, List.set_cons_zero, List.set_cons_succ]
        refine wpAnyH_take (i := 8) (oi := ⟨some 165, _, _, _, _, _⟩) (v := ?_) rfl (by kernel_rfl) (by kernel_rfl) (by kernel_rfl) (fun _ _ _ h => h) (Or.inl ⟨by rfl, (by intro w hSw; (try dsimp only at hSw); go_simp; try with_reducible rfl)⟩) hHeld ?_
        try simp only [Act.put, List.setIfInBounds_toArray, List.set_cons_zero, List.set_cons_succ]
        refine wpAnyH_take (i := 11) (oi := ⟨some 168, _, _, _, _, _⟩) (v := ?_) rfl (by kernel_rfl) (by kernel_rfl) (by kernel_rfl) (fun _ _ _ h => h) (Or.inl ⟨by rfl, (by intro w hSw; (try dsimp only at hSw); go_simp; try with_reducible rfl)⟩) hHeld ?_
        try simp only [Act.put, List.setIfInBounds_toArray, List.set_cons_zero, List.set_cons_succ]
        refine wpAnyH_take (i := 9) (oi := ⟨some 166, _, _, _, _, _⟩) (v := ?_) rfl (by kernel_rfl) (by kernel_rfl) (by kernel_rfl) (fun _ _ _ h => h) (Or.inl ⟨by rfl, (by intro w hSw; (try dsimp only at hSw); go_simp; try with_reducible rfl)⟩) hHeld ?_
        try simp only [Act.put, List.setIfInBounds_toArray, List.set_cons_zero, List.set_cons_succ]
        refine wpAnyH_ready (rs := [12]) (by kernel_rfl) (by simp) ?_
        refine (AllReadyH.cons (o := ⟨some 169, _, _, _, _, _⟩) rfl (fun K hK => ?_) AllReadyH.nil)
        go_simp
        refine hLk.mono ?_
        rintro e w15 ⟨rfl, hb15⟩
        have hS2 := HSS.out _ hb15
        refine hK.out _ _ hS2 (fun hHeld => ?_)
        clear hK K
        try simp only [Act.put, List.setIfInBounds_toArray, List.set_cons_zero, List.set_cons_succ]
        refine wpAnyH_take (i := 13) (oi := ⟨some 170, _, _, _, _, _⟩) (v := ?_) rfl (by kernel_rfl) (by kernel_rfl) (by kernel_rfl) (fun _ _ _ h => h) (Or.inl ⟨by rfl, (by intro w hSw; (try dsimp only at hSw); go_simp; try with_reducible rfl)⟩) hHeld ?_
        try simp only [Act.put, List.setIfInBounds_toArray, List.set_cons_zero, List.set_cons_succ]
        refine wpAnyH_take (i := 14) (oi := ⟨some 171, _, _, _, _, _⟩) (v := ?_) rfl (by kernel_rfl) (by kernel_rfl) (by kernel_rfl) (fun _ _ _ h => h) (Or.inl ⟨by rfl, (by intro w hSw; (try dsimp only at hSw); go_simp; try with_reducible rfl)⟩) hHeld ?_
        try simp only [Act.put, List.setIfInBounds_toArray, List.set_cons_zero, List.set_cons_succ]
        refine wpAnyH_take (i := 15) (oi := ⟨some 172, _, _, _, _, _⟩) (v := ?_) rfl (by kernel_rfl) (by kernel_rfl) (by kernel_rfl) (fun _ _ _ h => h) (Or.inl ⟨by rfl, (by intro w hSw; (try dsimp only at hSw); go_simp; try with_reducible rfl)⟩) hHeld ?_
        try simp only [Act.put, List.setIfInBounds_toArray, List.set_cons_zero, List.set_cons_succ]
        refine wpAnyH_take (i := 20) (oi := ⟨some 177, _, _, _, _, _⟩) (v := ?_) rfl (by kernel_rfl) (by kernel_rfl) (by kernel_rfl) (fun _ _ _ h => h) (Or.inl ⟨by rfl, (by intro w hSw; (try dsimp only at hSw); go_simp; try with_reducible rfl)⟩) hHeld ?_
        try simp only [Act.put, List.setIfInBounds_toArray, List.set_cons_zero, List.set_cons_succ]
        refine wpAnyH_take (i := 16) (oi := ⟨some 173, _, _, _, _, _⟩) (v := ?_) rfl (by kernel_rfl) (by kernel_rfl) (by kernel_rfl) (fun _ _ _ h => h) (Or.inl ⟨by rfl, (by intro w hSw; (try dsimp only at hSw); go_simp; try with_reducible rfl)⟩) hHeld ?_
        try simp only [Act.put, List.setIfInBounds_toArray, List.set_cons_zero, List.set_cons_succ]
        refine wpAnyH_take (i := 17) (oi := ⟨some 174, _, _, _, _, _⟩) (v := ?_) rfl (by kernel_rfl) (by kernel_rfl) (by kernel_rfl) (fun _ _ _ h => h) (Or.inl ⟨by rfl, (by intro w hSw; (try dsimp only at hSw); go_simp; try with_reducible rfl)⟩) hHeld ?_
        try simp only [Act.put, List.setIfInBounds_toArray, List.set_cons_zero, List.set_cons_succ]
        refine wpAnyH_take (i := 18) (oi := ⟨some 175, _, _, _, _, _⟩) (v := ?_) rfl (by kernel_rfl) (by kernel_rfl) (by kernel_rfl) (fun _ _ _ h => h) (Or.inl ⟨by rfl, (by intro w hSw; (try dsimp only at hSw); go_simp; try with_reducible rfl)⟩) hHeld ?_
        try simp only [Act.put, List.setIfInBounds_toArray, List.set_cons_zero, List.set_cons_succ]
        refine wpAnyH_ready (rs := [19, 21]) (by kernel_rfl) (by simp) ?_
        refine (AllReadyH.cons (o := ⟨some 176, _, _, _, _, _⟩) rfl (fun K hK => ?_) (AllReadyH.cons (o := ⟨some 178, _, _, _, _, _⟩) rfl (fun K hK => ?_) AllReadyH.nil))
        · go_simp
          refine (hPn.out _ hHeld.1).mono ?_
          rintro e wp ⟨Ap, cp, rfl, hnp, hbp⟩
          try have hnew := hnew.below hbp
          have hb5 := hHeld.1.trans (hbp.mono hHeld.1.size)
          have hS2 := HSS.out _ hb5
          refine hK.out _ _ hS2 (fun hHeld => ?_)
          clear hK K
          try simp only [Act.put, List.setIfInBounds_toArray, List.set_cons_zero, List.set_cons_succ]
          refine wpAnyH_ready (rs := [21]) (by kernel_rfl) (by simp) ?_
          refine (AllReadyH.cons (o := ⟨some 178, _, _, _, _, _⟩) rfl (fun K hK => ?_) AllReadyH.nil)
          go_simp
          have hnew := HNw.out _ hHeld.1
          try have hnp := hnp.below (HAl.out _ hHeld.1)
          have hb5 := hHeld.1.alloc hHeld.1.size (.cells #[.int .i64 (id2 : Int)] 3)
          have hS2 := HSS.out _ hb5
          refine hK.out _ _ hS2 (fun hHeld => ?_)
          clear hK K
          try simp only [Act.put, List.setIfInBounds_toArray, List.set_cons_zero, List.set_cons_succ]
          refine wpAnyH_ready (rs := [22]) (by kernel_rfl) (by simp) ?_
          refine (AllReadyH.cons (o := ⟨some 179, _, _, _, _, _⟩) rfl (fun K hK => ?_) AllReadyH.nil)
          go_simp
          refine (HIn.out _ _ _ _ hnp hnew).mono ?_
          rintro e w17 ⟨rfl, hb17⟩
          have hb6 := hHeld.1.trans (hb17.mono hHeld.1.size)
          have hS2 := HSS.out _ hb6
          refine hK.out _ _ hS2 (fun hHeld => ?_)
          clear hK K
          try simp only [Act.put, List.setIfInBounds_toArray, List.set_cons_zero, List.set_cons_succ]
          refine wpAnyH_take (i := 23) (oi := ⟨some 180, _, _, _, _, _⟩) (v := ?_) rfl (by kernel_rfl) (by kernel_rfl) (by kernel_rfl) (fun _ _ _ h => h) (Or.inl ⟨by rfl, (by intro w hSw; (try dsimp only at hSw); go_simp; try with_reducible rfl)⟩) hHeld ?_
          try simp only [Act.put, List.setIfInBounds_toArray, List.set_cons_zero, List.set_cons_succ]
          refine wpAnyH_take (i := 24) (oi := ⟨some 181, _, _, _, _, _⟩) (v := ?_) rfl (by kernel_rfl) (by kernel_rfl) (by kernel_rfl) (fun _ _ _ h => h) (Or.inl ⟨by rfl, (by intro w hSw; (try dsimp only at hSw); go_simp; try with_reducible rfl)⟩) hHeld ?_
          try simp only [Act.put, List.setIfInBounds_toArray, List.set_cons_zero, List.set_cons_succ]
          refine wpAnyH_take (i := 25) (oi := ⟨some 182, _, _, _, _, _⟩) (v := ?_) rfl (by kernel_rfl) (by kernel_rfl) (by kernel_rfl) (fun _ _ _ h => h) (Or.inl ⟨by rfl, (by intro w hSw; (try dsimp only at hSw); go_simp; try with_reducible rfl)⟩) hHeld ?_
          try simp only [Act.put, List.setIfInBounds_toArray, List.set_cons_zero, List.set_cons_succ]
          refine wpAnyH_take (i := 29) (oi := ⟨some 186, _, _, _, _, _⟩) (v := ?_) rfl (by kernel_rfl) (by kernel_rfl) (by kernel_rfl) (fun _ _ _ h => h) (Or.inl ⟨by rfl, (by intro w hSw; (try dsimp only at hSw); go_simp; try with_reducible rfl)⟩) hHeld ?_
          try simp only [Act.put, List.setIfInBounds_toArray, List.set_cons_zero, List.set_cons_succ]
          refine wpAnyH_take (i := 31) (oi := ⟨some 188, _, _, _, _, _⟩) (v := ?_) rfl (by kernel_rfl) (by kernel_rfl) (by kernel_rfl) (fun _ _ _ h => h) (Or.inl ⟨by rfl, (by intro w hSw; (try dsimp only at hSw); go_simp; try with_reducible rfl)⟩) hHeld ?_
          try simp only [Act.put, List.setIfInBounds_toArray, List.set_cons_zero, List.set_cons_succ]
          refine wpAnyH_take (i := 33) (oi := ⟨some 190, _, _, _, _, _⟩) (v := ?_) rfl (by kernel_rfl) (by kernel_rfl) (by kernel_rfl) (fun _ _ _ h => h) (Or.inl ⟨by rfl, (by intro w hSw; (try dsimp only at hSw); go_simp; try with_reducible rfl)⟩) hHeld ?_
          try simp only [Act.put, List.setIfInBounds_toArray, List.set_cons_zero, List.set_cons_succ]
          refine wpAnyH_take (i := 26) (oi := ⟨some 183, _, _, _, _, _⟩) (v := ?_) rfl (by kernel_rfl) (by kernel_rfl) (by kernel_rfl) (fun _ _ _ h => h) (Or.inl ⟨by rfl, (by intro w hSw; (try dsimp only at hSw); go_simp; try with_reducible rfl)⟩) hHeld ?_
          try simp only [Act.put, List.setIfInBounds_toArray, List.set_cons_zero, List.set_cons_succ]
          refine wpAnyH_take (i := 32) (oi := ⟨some 189, _, _, _, _, _⟩) (v := ?_) rfl (by kernel_rfl) (by kernel_rfl) (by kernel_rfl) (fun _ _ _ h => h) (Or.inl ⟨by rfl, (by intro w hSw; (try dsimp only at hSw); go_simp; try with_reducible rfl)⟩) hHeld ?_
          try simp only [Act.put, List.setIfInBounds_toArray, List.set_cons_zero, List.set_cons_succ]
          refine wpAnyH_take (i := 34) (oi := ⟨some 191, _, _, _, _, _⟩) (v := ?_) rfl (by kernel_rfl) (by kernel_rfl) (by kernel_rfl) (fun _ _ _ h => h) (Or.inl ⟨by rfl, (by intro w hSw; (try dsimp only at hSw); go_simp; try with_reducible rfl)⟩) hHeld ?_
          try simp only [Act.put, List.setIfInBounds_toArray, List.set_cons_zero, List.set_cons_succ]
          refine wpAnyH_take (i := 27) (oi := ⟨some 184, _, _, _, _, _⟩) (v := ?_) rfl (by kernel_rfl) (by kernel_rfl) (by kernel_rfl) (fun _ _ _ h => h) (Or.inl ⟨by rfl, (by intro w hSw; (try dsimp only at hSw); go_simp; try with_reducible rfl)⟩) hHeld ?_
          try simp only [Act.put, List.setIfInBounds_toArray, List.set_cons_zero, List.set_cons_succ]
          refine wpAnyH_take (i := 28) (oi := ⟨some 185, _, _, _, _, _⟩) (v := ?_) rfl (by kernel_rfl) (by kernel_rfl) (by kernel_rfl) (fun _ _ _ h => h) (Or.inl ⟨by rfl, (by intro w hSw; (try dsimp only at hSw); go_simp; try with_reducible rfl)⟩) hHeld ?_
          try simp only [Act.put, List.setIfInBounds_toArray, List.set_cons_zero, List.set_cons_succ]
          refine wpAnyH_take (i := 35) (oi := ⟨some 192, _, _, _, _, _⟩) (v := ?_) rfl (by kernel_rfl) (by kernel_rfl) (by kernel_rfl) (fun _ _ _ h => h) (Or.inl ⟨by rfl, (by intro w hSw; (try dsimp only at hSw); go_simp; try with_reducible rfl)⟩) hHeld ?_
          try simp only [Act.put, List.setIfInBounds_toArray, List.set_cons_zero, List.set_cons_succ]
          refine wpAnyH_ready (rs := [30]) (by kernel_rfl) (by simp) ?_
          refine (AllReadyH.cons (o := ⟨some 187, _, _, _, _, _⟩) rfl (fun K hK => ?_) AllReadyH.nil)
          go_simp
          refine (hDu.out _ hHeld.1).mono ?_
          rintro e w' ⟨rfl, rfl⟩
          have hS2 := hHeld
          refine hK.out _ _ hS2 (fun hHeld => ?_)
          clear hK K
          try simp only [Act.put, List.setIfInBounds_toArray, List.set_cons_zero, List.set_cons_succ]
          refine wpAnyH_take (i := 36) (oi := ⟨some 193, _, _, _, _, _⟩) (v := ?_) rfl (by kernel_rfl) (by kernel_rfl) (by kernel_rfl) (fun _ _ _ h => h) (Or.inl ⟨by rfl, (by intro w hSw; (try dsimp only at hSw); go_simp; try with_reducible rfl)⟩) hHeld ?_
          try simp only [Act.put, List.setIfInBounds_toArray, List.set_cons_zero, List.set_cons_succ]
          refine wpAnyH_take (i := 37) (oi := ⟨some 194, _, _, _, _, _⟩) (v := ?_) rfl (by kernel_rfl) (by kernel_rfl) (by kernel_rfl) (fun _ _ _ h => h) (Or.inl ⟨by rfl, (by intro w hSw; (try dsimp only at hSw); go_simp; try with_reducible rfl)⟩) hHeld ?_
          try simp only [Act.put, List.setIfInBounds_toArray, List.set_cons_zero, List.set_cons_succ]
          refine wpAnyH_take (i := 38) (oi := ⟨some 4, _, _, _, _, _⟩) (v := ?_) rfl (by kernel_rfl) (by kernel_rfl) (by kernel_rfl) (fun _ _ _ h => h) (Or.inl ⟨by rfl, (by intro w hSw; (try dsimp only at hSw); go_simp; try with_reducible rfl)⟩) hHeld ?_
          try simp only [Act.put, List.setIfInBounds_toArray, List.set_cons_zero, List.set_cons_succ]
          refine wpAnyH_done (by kernel_rfl) ?_ _
          have HF := Lib.hid (HB1.out.trans ((HBW.out _ _ (HS14.out.trans (Stp.of_below ((Below.refl w14.heap.size w14).drew.trans hb6)))).2.2.2.mono HB1.out.size))
          clear hHeld hS2 hb6 hb17 hb15 hLk
          go_wp2
          go_ret
          exact ⟨rfl, HF.out⟩
        · go_simp
          have hnew := HNw.out _ hHeld.1
          try have hnp := hnp.below (HAl.out _ hHeld.1)
          have hb5 := hHeld.1.alloc hHeld.1.size (.cells #[.int .i64 (id2 : Int)] 3)
          have hS2 := HSS.out _ hb5
          refine hK.out _ _ hS2 (fun hHeld => ?_)
          clear hK K
          try simp only [Act.put, List.setIfInBounds_toArray, List.set_cons_zero, List.set_cons_succ]
          refine wpAnyH_ready (rs := [19]) (by kernel_rfl) (by simp) ?_
          refine (AllReadyH.cons (o := ⟨some 176, _, _, _, _, _⟩) rfl (fun K hK => ?_) AllReadyH.nil)
          go_simp
          refine (hPn.out _ hHeld.1).mono ?_
          rintro e wp ⟨Ap, cp, rfl, hnp, hbp⟩
          try have hnew := hnew.below hbp
          have hb5 := hHeld.1.trans (hbp.mono hHeld.1.size)
          have hS2 := HSS.out _ hb5
          refine hK.out _ _ hS2 (fun hHeld => ?_)
          clear hK K
          try simp only [Act.put, List.setIfInBounds_toArray, List.set_cons_zero, List.set_cons_succ]
          refine wpAnyH_ready (rs := [22]) (by kernel_rfl) (by simp) ?_
          refine (AllReadyH.cons (o := ⟨some 179, _, _, _, _, _⟩) rfl (fun K hK => ?_) AllReadyH.nil)
          go_simp
          refine (HIn.out _ _ _ _ hnp hnew).mono ?_
          rintro e w17 ⟨rfl, hb17⟩
          have hb6 := hHeld.1.trans (hb17.mono hHeld.1.size)
          have hS2 := HSS.out _ hb6
          refine hK.out _ _ hS2 (fun hHeld => ?_)
          clear hK K
          try simp only [Act.put, List.setIfInBounds_toArray, List.set_cons_zero, List.set_cons_succ]
          refine wpAnyH_take (i := 23) (oi := ⟨some 180, _, _, _, _, _⟩) (v := ?_) rfl (by kernel_rfl) (by kernel_rfl) (by kernel_rfl) (fun _ _ _ h => h) (Or.inl ⟨by rfl, (by intro w hSw; (try dsimp only at hSw); go_simp; try with_reducible rfl)⟩) hHeld ?_
          try simp only [Act.put, List.setIfInBounds_toArray, List.set_cons_zero, List.set_cons_succ]
          refine wpAnyH_take (i := 24) (oi := ⟨some 181, _, _, _, _, _⟩) (v := ?_) rfl (by kernel_rfl) (by kernel_rfl) (by kernel_rfl) (fun _ _ _ h => h) (Or.inl ⟨by rfl, (by intro w hSw; (try dsimp only at hSw); go_simp; try with_reducible rfl)⟩) hHeld ?_
          try simp only [Act.put, List.setIfInBounds_toArray, List.set_cons_zero, List.set_cons_succ]
          refine wpAnyH_take (i := 25) (oi := ⟨some 182, _, _, _, _, _⟩) (v := ?_) rfl (by kernel_rfl) (by kernel_rfl) (by kernel_rfl) (fun _ _ _ h => h) (Or.inl ⟨by rfl, (by intro w hSw; (try dsimp only at hSw); go_simp; try with_reducible rfl)⟩) hHeld ?_
          try simp only [Act.put, List.setIfInBounds_toArray, List.set_cons_zero, List.set_cons_succ]
          refine wpAnyH_take (i := 29) (oi := ⟨some 186, _, _, _, _, _⟩) (v := ?_) rfl (by kernel_rfl) (by kernel_rfl) (by kernel_rfl) (fun _ _ _ h => h) (Or.inl ⟨by rfl, (by intro w hSw; (try dsimp only at hSw); go_simp; try with_reducible rfl)⟩) hHeld ?_
          try simp only [Act.put, List.setIfInBounds_toArray, List.set_cons_zero, List.set_cons_succ]
          refine wpAnyH_take (i := 31) (oi := ⟨some 188, _, _, _, _, _⟩) (v := ?_) rfl (by kernel_rfl) (by kernel_rfl) (by kernel_rfl) (fun _ _ _ h => h) (Or.inl ⟨by rfl, (by intro w hSw; (try dsimp only at hSw); go_simp; try with_reducible rfl)⟩) hHeld ?_
          try simp only [Act.put, List.setIfInBounds_toArray, List.set_cons_zero, List.set_cons_succ]
          refine wpAnyH_take (i := 33) (oi := ⟨some 190, _, _, _, _, _⟩) (v := ?_) rfl (by kernel_rfl) (by kernel_rfl) (by kernel_rfl) (fun _ _ _ h => h) (Or.inl ⟨by rfl, (by intro w hSw; (try dsimp only at hSw); go_simp; try with_reducible rfl)⟩) hHeld ?_
          try simp only [Act.put, List.setIfInBounds_toArray, List.set_cons_zero, List.set_cons_succ]
          refine wpAnyH_take (i := 26) (oi := ⟨some 183, _, _, _, _, _⟩) (v := ?_) rfl (by kernel_rfl) (by kernel_rfl) (by kernel_rfl) (fun _ _ _ h => h) (Or.inl ⟨by rfl, (by intro w hSw; (try dsimp only at hSw); go_simp; try with_reducible rfl)⟩) hHeld ?_
          try simp only [Act.put, List.setIfInBounds_toArray, List.set_cons_zero, List.set_cons_succ]
          refine wpAnyH_take (i := 32) (oi := ⟨some 189, _, _, _, _, _⟩) (v := ?_) rfl (by kernel_rfl) (by kernel_rfl) (by kernel_rfl) (fun _ _ _ h => h) (Or.inl ⟨by rfl, (by intro w hSw; (try dsimp only at hSw); go_simp; try with_reducible rfl)⟩) hHeld ?_
          try simp only [Act.put, List.setIfInBounds_toArray, List.set_cons_zero, List.set_cons_succ]
          refine wpAnyH_take (i := 34) (oi := ⟨some 191, _, _, _, _, _⟩) (v := ?_) rfl (by kernel_rfl) (by kernel_rfl) (by kernel_rfl) (fun _ _ _ h => h) (Or.inl ⟨by rfl, (by intro w hSw; (try dsimp only at hSw); go_simp; try with_reducible rfl)⟩) hHeld ?_
          try simp only [Act.put, List.setIfInBounds_toArray, List.set_cons_zero, List.set_cons_succ]
          refine wpAnyH_take (i := 27) (oi := ⟨some 184, _, _, _, _, _⟩) (v := ?_) rfl (by kernel_rfl) (by kernel_rfl) (by kernel_rfl) (fun _ _ _ h => h) (Or.inl ⟨by rfl, (by intro w hSw; (try dsimp only at hSw); go_simp; try with_reducible rfl)⟩) hHeld ?_
          try simp only [Act.put, List.setIfInBounds_toArray, List.set_cons_zero, List.set_cons_succ]
          refine wpAnyH_take (i := 28) (oi := ⟨some 185, _, _, _, _, _⟩) (v := ?_) rfl (by kernel_rfl) (by kernel_rfl) (by kernel_rfl) (fun _ _ _ h => h) (Or.inl ⟨by rfl, (by intro w hSw; (try dsimp only at hSw); go_simp; try with_reducible rfl)⟩) hHeld ?_
          try simp only [Act.put, List.setIfInBounds_toArray, List.set_cons_zero, List.set_cons_succ]
          refine wpAnyH_take (i := 35) (oi := ⟨some 192, _, _, _, _, _⟩) (v := ?_) rfl (by kernel_rfl) (by kernel_rfl) (by kernel_rfl) (fun _ _ _ h => h) (Or.inl ⟨by rfl, (by intro w hSw; (try dsimp only at hSw); go_simp; try with_reducible rfl)⟩) hHeld ?_
          try simp only [Act.put, List.setIfInBounds_toArray, List.set_cons_zero, List.set_cons_succ]
          refine wpAnyH_ready (rs := [30]) (by kernel_rfl) (by simp) ?_
          refine (AllReadyH.cons (o := ⟨some 187, _, _, _, _, _⟩) rfl (fun K hK => ?_) AllReadyH.nil)
          go_simp
          refine (hDu.out _ hHeld.1).mono ?_
          rintro e w' ⟨rfl, rfl⟩
          have hS2 := hHeld
          refine hK.out _ _ hS2 (fun hHeld => ?_)
          clear hK K
          try simp only [Act.put, List.setIfInBounds_toArray, List.set_cons_zero, List.set_cons_succ]
          refine wpAnyH_take (i := 36) (oi := ⟨some 193, _, _, _, _, _⟩) (v := ?_) rfl (by kernel_rfl) (by kernel_rfl) (by kernel_rfl) (fun _ _ _ h => h) (Or.inl ⟨by rfl, (by intro w hSw; (try dsimp only at hSw); go_simp; try with_reducible rfl)⟩) hHeld ?_
          try simp only [Act.put, List.setIfInBounds_toArray, List.set_cons_zero, List.set_cons_succ]
          refine wpAnyH_take (i := 37) (oi := ⟨some 194, _, _, _, _, _⟩) (v := ?_) rfl (by kernel_rfl) (by kernel_rfl) (by kernel_rfl) (fun _ _ _ h => h) (Or.inl ⟨by rfl, (by intro w hSw; (try dsimp only at hSw); go_simp; try with_reducible rfl)⟩) hHeld ?_
          try simp only [Act.put, List.setIfInBounds_toArray, List.set_cons_zero, List.set_cons_succ]
          refine wpAnyH_take (i := 38) (oi := ⟨some 4, _, _, _, _, _⟩) (v := ?_) rfl (by kernel_rfl) (by kernel_rfl) (by kernel_rfl) (fun _ _ _ h => h) (Or.inl ⟨by rfl, (by intro w hSw; (try dsimp only at hSw); go_simp; try with_reducible rfl)⟩) hHeld ?_
          try simp only [Act.put, List.setIfInBounds_toArray, List.set_cons_zero, List.set_cons_succ]
          refine wpAnyH_done (by kernel_rfl) ?_ _
          have HF := Lib.hid (HB1.out.trans ((HBW.out _ _ (HS14.out.trans (Stp.of_below ((Below.refl w14.heap.size w14).drew.trans hb6)))).2.2.2.mono HB1.out.size))
          clear hHeld hS2 hb6 hb17 hb15 hLk
          go_wp2
          go_ret
          exact ⟨rfl, HF.out⟩
    · have HE := Lib.hid hE
      have heb : (sendE topL x == 0) = false := by simpa using hE
      have hen : (sendE topL x != 0) = true := by simpa using hE
      have HSd := Lib.hid (fun (W : World) (χ' : Col) (h : Core χ' W s a now tape0 topL [] (dskT topL cap)) (hr : RSa W A x.keys) => Send_bad (c := c) h hr (by omega) (by decide) HE.out sy)
      have HSc := Lib.hid (fun (W : World) (χ' : Col) (h : Core χ' W s a now tape0 topL [] (dskT topL cap)) (hr : RSa W A x.keys) => Schedule_bad (c := c) h hr (by omega) (by decide) HE.out at' sy)
      rw [HV.out] at HSd HSc
      clear hE HE
      generalize sendE topL x = E at *
      go_wp2_with (fail)
      refine hCk.mono ?_
      rintro e w7 ⟨rfl, hb⟩
      have HS7 := Lib.hid (HS6.out.trans (Stp.of_below hb))
      have HC7 := Lib.hid (HC6.out.below hb)
      clear hCk hb HS6 HC6 q0 q1 q2 q3 q4
      obtain ⟨p0, p1, p2, p3⟩ := HBW.out w7 _ HS7.out
      have hSd := HSd.out w7 _ HC7.out p2
      unfold ptr at hSd
      have q0 := p0.cell 0
      have q1 := p0.cell 1
      have q2 := p0.cell 2
      have q3 := p0.cell 3
      have q4 := p0.cell 4
      have s2 := p1.cell 2
      clear p0 p1 p2 p3
      go_wp2_with (fail)
      refine hSd.mono ?_
      rintro e w8 ⟨rfl, hb⟩
      have HS8 := Lib.hid (HS7.out.trans (Stp.of_below hb))
      have HC8 := Lib.hid (HC7.out.below hb)
      clear hSd hb HS7 HC7 q0 q1 q2 q3 q4 s2
      have e0 : w8.cell? ⟨s, 0, none⟩ = some (.pointer (some ⟨a.tp, 0, none⟩)) := HC8.out.own.1.cell 0
      have hEn := End_tape HC8.out.tp
      rw [show tape0.row.fin = 0 from rfl] at hEn
      obtain ⟨p0, p1, p2, p3⟩ := HBW.out w8 _ HS8.out
      have hSc := HSc.out w8 _ HC8.out p2
      unfold ptr at hSc
      have q0 := p0.cell 0
      have q1 := p0.cell 1
      have q2 := p0.cell 2
      have q3 := p0.cell 3
      have q4 := p0.cell 4
      have s1 := p1.cell 1
      have s2 := p1.cell 2
      clear p0 p1 p2 p3
      go_wp2_with (fail)
      refine hEn.mono ?_
      rintro e w' ⟨rfl, rfl⟩
      go_wp2_with (fail)
      refine hEn.mono ?_
      rintro e w' ⟨rfl, rfl⟩
      clear hEn
      go_wp2_with (fail)
      refine hSc.mono ?_
      rintro e w9 ⟨rfl, hb⟩
      have HS9 := Lib.hid (HS8.out.trans (Stp.of_below hb))
      have HC9 := Lib.hid (HC8.out.below hb)
      clear hSc hb HS8 HC8 q0 q1 q2 q3 q4 s1 s2 e0
      have e0 : w9.cell? ⟨s, 0, none⟩ = some (.pointer (some ⟨a.tp, 0, none⟩)) := HC9.out.own.1.cell 0
      have e6 : w9.cell? ⟨s, 6, none⟩ = some (.pointer (some ⟨a.pd, 0, none⟩)) := HC9.out.own.1.cell 6
      have hEn := End_tape HC9.out.tp
      rw [show tape0.row.fin = 0 from rfl] at hEn
      have hPn := Pending_any (ids := []) HC9.out.pd rfl (by simp) (fun k hk => by cases hk) (fun k hk => by cases hk)
      go_wp2_with (fail)
      refine hEn.mono ?_
      rintro e w' ⟨rfl, rfl⟩
      clear hEn
      go_wp2_with (fail)
      refine hPn.mono ?_
      rintro e w10 ⟨A10, c10, rfl, _, hb⟩
      have HS10 := Lib.hid (HS9.out.trans (Stp.of_below hb))
      clear hPn hb
      go_wp2_with (fail)
      go_ret
      exact ⟨rfl, HB1.out.trans ((HBW.out w10 _ HS10.out).2.2.2.mono HB1.out.size)⟩
end Go.Proofs.YtnacjogdndggeaaGreatDoor
end
