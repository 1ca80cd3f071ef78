/- Layer 22's law: SendAll. -/
import Derived.Test.YtnacjogdndggeaaGreatDoorZ34
import Derived.Test.YtnacjogdndggeaaGreatDoorZ35
import Derived.Test.YtnacjogdndggeaaGreatDoorZ36
section
namespace Go.Proofs.YtnacjogdndggeaaGreatDoor
open Go.Shelf Go.RowKit Go.Lib
set_option maxRecDepth 100000
set_option maxHeartbeats 4000000

theorem greatF_false {l : List WantR} (h : greatF l = false) : ∀ x ∈ l, greatW x = false := fun x hx => by
  unfold greatF at h
  rw [List.any_eq_false] at h
  simpa using h x hx
theorem greatW_keys {x : WantR} (h : greatW x = false) : x.keys.length ≤ 10 := by
  unfold greatW bigW at h
  simp at h
  exact h.1.2.2.1

theorem sent_ids {ids : List Nat} {now : Int} {l : List WantR} (h : ids.length = l.length) : (sentR now ids l).map (·.1) = ids := by
  unfold sentR
  rw [List.map_fst_zip (by rw [List.length_map]; omega)]
theorem sent_mem {ids : List Nat} {now : Int} {l : List WantR} (h : ids.length = l.length) {k : Nat} (hk : k < l.length) : (ids[k]'(by omega), recOf l[k] 1 0 now) ∈ sentR now ids l := by
  unfold sentR
  rw [List.mem_iff_getElem]
  exact ⟨k, by rw [List.length_zip, List.length_map]; omega, by simp⟩

theorem SendAll_any {w : World} {A : Option Addr} {c : Nat} {l : List WantR} (ht : Tab (fun _ => 0) w) (hW : WsA w A l) (b : Bool) :
    Calls Tryz.prog 3 #[.slice A l.length c, .bool b] w fun e w' => e = .returned (.bool true) ∧ Below w.heap.size w w' := by
  have hAw := awake_any ht
  have HT := Lib.hid ht
  have HW := Lib.hid hW
  clear ht hW
  go_enter Tryz.func3, Tryz.ntmps3
  go_wp2_with (fail)
  refine hAw.mono ?_
  rintro e w1 ⟨rfl, hb⟩
  have HB1 := Lib.hid hb
  clear hAw hb
  by_cases h20 : 20 < l.length
  · have d0 : decide ((20 : Int) < (l.length : Int)) = true := decide_eq_true (by omega)
    go_wp2_with (fail)
    go_ret
    exact ⟨rfl, HB1.out⟩
  have d0 : decide ((20 : Int) < (l.length : Int)) = false := decide_eq_false (by omega)
  have hGr := Great_any A c l w1 (HW.out.below HB1.out) (by omega)
  go_wp2_with (fail)
  refine hGr.mono ?_
  rintro e w2 ⟨rfl, hb⟩
  have HB2 := Lib.hid (HB1.out.trans (hb.mono HB1.out.size))
  clear hGr hb HB1
  cases hg : greatF l with
  | true =>
    clear hg
    go_wp2_with (fail)
    go_ret
    exact ⟨rfl, HB2.out⟩
  | false =>
    have HG := Lib.hid (greatF_false hg)
    clear hg
    have hN := diskNew_any (fun _ => 0) 1 1048576 w2
    go_wp2_with (fail)
    refine hN.mono ?_
    rintro e w3 ⟨rfl, hd, hb⟩
    have st3 := ((Stp.of_below (C := (· ≠ 0)) (χ := fun _ => 0) (HB2.out.trans (hb.mono HB2.out.size))).paint HB2.out.size 1)
    have HS3 := Lib.hid st3
    have hM := Made_any (cap := 1048576) (now := 7) (by rw [show (⟨[], [], 1048576⟩ : Dsk) = dskNew 1048576 by kernel_rfl]; exact hd) (HT.out.stp st3 (by decide)) (by omega) (by omega) (by omega)
    clear hN hd hb st3 HB2 d0
    unfold ptr at hM
    generalize w2.heap.size + 1 = mn at *
    go_wp2_with (fail)
    refine hM.mono ?_
    rintro e w4 ⟨s, a, χ4, rfl, s4, hc4, rfl⟩
    have HS4 := Lib.hid (HS3.out.trans s4)
    have HC4 := Lib.hid hc4
    have HWS := Lib.hid (fun (W : World) (χ' : Col) (hb : Stp (· ≠ 0) (fun _ => 0) w χ' W) => HW.out.below (hb.below (fun k _ h => h rfl)))
    have HWt := HW
    clear hM s4 hc4 HS3 HW
    have HB0 := Lib.hid (Below.refl w4.heap.size w4)
    go_upto_region 11 with (fail)
    go_loopw [8, 38] (fun vw vi wr => ∃ k : Nat, k ≤ l.length ∧ vi = .int .i64 k ∧ ∃ E : Int, vw = .int .i64 E ∧ Hid (allE topL l = if E = 0 then allE topL (l.drop k) else E) ∧ Hid (Below w4.heap.size w4 wr)) (fun _ vi _ => l.length - (intOf vi).toNat)
    case atStart => exact ⟨0, Nat.zero_le _, rfl, 0, rfl, Lib.hid (by rw [List.drop_zero]; rfl), HB0⟩
    case round =>
      clear HB0
      obtain ⟨k, hk, rfl, E, rfl, HE, HB⟩ := hrel
      by_cases hlt : k < l.length
      · obtain ⟨bb, o, Aj, cj, rfl, ⟨h0, h1, h2, h3, h4⟩, hr, hcj⟩ := HWS.out wr χ4 (HS4.out.trans (Stp.of_below HB.out)) k hlt
        have HD := Lib.hid (allE_step (L := topL) hlt)
        have hgx := HG.out _ (List.getElem_mem hlt)
        generalize l[k] = x at *
        have hB2 := (Below.refl wr.heap.size wr).alloc (Nat.le_refl _) (.cells (wantV x Aj cj) 33)
        have HB2 := Lib.hid (HB.out.trans (hB2.mono HB.out.size))
        have HM2 := Lib.hid (Blk.new wr (wantV x Aj cj) 33)
        have hRi := Right_any x Aj cj _ (hr.below hB2) hcj hgx
        rw [rightW_eq] at hRi
        have HV : Hid (wantV x Aj cj = #[.string (S x.topic), .int .i64 x.queue, .string (S x.tag), .slice Aj x.keys.length cj, .string (S x.body)]) := rfl
        clear hr hB2 hgx hcj
        simp only [HV.out] at *
        go_upto_region 13 with (fail)
        generalize wr.alloc (.cells #[.string (S x.topic), .int .i64 x.queue, .string (S x.tag), .slice Aj x.keys.length cj, .string (S x.body)] 33) = w5 at *
        clear h0 h1 h2 h3 h4
        have m0 := HM2.out.cell 0
        have m1 := HM2.out.cell 1
        have m2 := HM2.out.cell 2
        have m3 := HM2.out.cell 3
        have m4 := HM2.out.cell 4
        by_cases hE : E = 0
        · have HX := Lib.hid (show allE topL l = if sendE topL x = 0 then allE topL (l.drop (k + 1)) else sendE topL x by rw [HE.out, if_pos hE, HD.out])
          subst hE
          generalize sendE topL x = E2 at *
          go_wp2_with (fail)
          refine hRi.mono ?_
          rintro e w6 ⟨rfl, hb⟩
          have HB6 := Lib.hid (HB2.out.trans (hb.mono HB2.out.size))
          clear hRi hb
          go_wp2
          exact ⟨⟨k + 1, hlt, by go_num, E2, rfl, HX, HB6⟩, by simp [intOf]; omega⟩
        · have hEb : (E == 0) = false := by simpa using hE
          have HX := Lib.hid (show allE topL l = if E = 0 then allE topL (l.drop (k + 1)) else E by rw [HE.out, if_neg hE, if_neg hE])
          clear hE hRi
          go_wp2
          exact ⟨⟨k + 1, hlt, by go_num, E, rfl, HX, HB2⟩, by simp [intOf]; omega⟩
      · have hkn : k = l.length := by omega
        subst hkn
        have HEE := Lib.hid (show allE topL l = E by
          rw [HE.out, List.drop_length]
          by_cases hE : E = 0
          · rw [if_pos hE, hE]; rfl
          · rw [if_neg hE])
        have HC5 := Lib.hid (HC4.out.below HB.out)
        have HS5 := Lib.hid (HS4.out.trans (Stp.of_below HB.out))
        clear HE HB HS4 HC4 hlt hk
        have HK := Lib.hid (fun (x : WantR) (hx : x ∈ l) => (show x.keys.length ≤ 1000 from by have := greatW_keys (HG.out x hx); omega))
        have HNil := Lib.hid (fun W => All_nil (some ⟨W, 0, none⟩) 1 ⟨[], 0, [], [], []⟩)
        by_cases hE : E = 0
        · subst hE
          have hGood := All_good (c := c) HS5.out HWt.out HC5.out HK.out (by decide) (by omega) HEE.out topL_right (by omega) (by omega) (ample0 (n := l.length) (by omega) (by omega)) rfl b
          unfold ptr at hGood
          go_wp2_with (fail)
          refine hGood.mono ?_
          rintro e w6 ⟨A2, c2, χ6, T', D', ids, rfl, hsent⟩
          have HS6 := Lib.hid (HS5.out.trans hsent.stp)
          have HSn := Lib.hid hsent
          clear hGood hsent HS5 HC5 HEE
          have hbn := Blk.new w6 #[.string ⟨#[]⟩, .int .i64 0, .string ⟨#[]⟩, .slice none 0 0, .string ⟨#[]⟩] 33
          have hNil := HNil.out w6.heap.size _ (fun j hj => by
            have hj0 : j = 0 := by simpa using hj
            subst hj0
            exact ⟨w6.heap.size, 0, none, 0, rfl, ⟨hbn.cell 0, hbn.cell 1, hbn.cell 2, hbn.cell 3, hbn.cell 4⟩, fun j hj => absurd hj (by simp), Nat.zero_le _⟩) b
          have HB7 := Lib.hid ((Below.refl w6.heap.size w6).alloc (Nat.le_refl _) (.cells #[.string ⟨#[]⟩, .int .i64 0, .string ⟨#[]⟩, .slice none 0 0, .string ⟨#[]⟩] 33))
          clear hbn HNil
          go_wp2_with (fail)
          refine hNil.mono ?_
          rintro e w7 ⟨rfl, hb⟩
          have hb7 := HB7.out.trans (hb.mono HB7.out.size)
          have HC7 := Lib.hid (HSn.out.core.below hb7)
          have HS7 := Lib.hid (HS6.out.trans (Stp.of_below hb7))
          have hil : ids.length = l.length := HSn.out.len
          have HI := Lib.hid hil
          have hrecs : T'.recs = sentR 7 ids l := by rw [HSn.out.recs, List.take_length]; rfl
          have hTi : T'.ids = ids := by unfold TapeM.ids; rw [hrecs, sent_ids hil]
          have hrl : T'.recs.length = l.length := by rw [← HSn.out.len, ← hTi]; unfold TapeM.ids; rw [List.length_map]
          have HN7 := Lib.hid ((NSa_of_row (by rw [hil]; exact HSn.out.row)).below hb7)
          have HMem := Lib.hid (fun k (hk : k < l.length) => (show (ids[k]'(by omega), recOf l[k] 1 0 7) ∈ T'.recs from by rw [hrecs]; exact sent_mem hil hk))
          have HWt7 := Lib.hid (HSn.out.waits rfl)
          have HGd := Lib.hid HSn.out.ample.good
          have e0 : w7.cell? ⟨s, 0, none⟩ = some (.pointer (some ⟨a.tp, 0, none⟩)) := HC7.out.own.1.cell 0
          have hIds := Ids_zero HC7.out.tp HGd.out.ok (by omega)
          rw [hrl, hTi] at hIds
          clear hNil hb hb7 HB7 HS6
          go_wp2_with (fail)
          refine hIds.mono ?_
          rintro e w8 ⟨A8, c8, rfl, hn8, hb⟩
          have HC8 := Lib.hid (HC7.out.below hb)
          have HS8 := Lib.hid (HS7.out.trans (Stp.of_below hb))
          have HN8 := Lib.hid (HN7.out.below hb)
          have hInt := Ints_one A2 A8 c2 c8 ids w8 HN8.out hn8 (by omega)
          rw [hil] at hInt
          clear hIds hn8 hb HC7 HS7 HN7 e0
          go_wp2_with (fail)
          refine hInt.mono ?_
          rintro e w9 ⟨rfl, hb⟩
          have HC9 := Lib.hid (HC8.out.below hb)
          have HS9 := Lib.hid (HS8.out.trans (Stp.of_below hb))
          have HN9 := Lib.hid (HN8.out.below hb)
          clear hInt hb HC8 HS8 HN8
          have HB0 := Lib.hid (Below.refl w9.heap.size w9)
          have hWa := Waits_any HC9.out.dk
          cases b <;> (
            first
            | (rw [HWt7.out rfl] at hWa
               go_wp2_with (fail)
               refine hWa.mono ?_
               rintro e w' ⟨rfl, rfl⟩
               clear hWa
               go_upto_region 25 with (fail))
            | (clear hWa
               go_upto_region 25 with (fail))
            go_loopw [99] (fun vi wr => ∃ k : Nat, k ≤ l.length ∧ vi = .int .i64 k ∧ Hid (Below w9.heap.size w9 wr)) (fun vi _ => l.length - (intOf vi).toNat)
            case atStart => exact ⟨0, Nat.zero_le _, rfl, HB0⟩
            case round =>
              clear HB0
              obtain ⟨k, hk, rfl, HB⟩ := hrel
              by_cases hlt : k < l.length
              · obtain ⟨b1, o1, rfl, hc1⟩ := HN9.out.below HB.out k (by omega)
                obtain ⟨bb, o, Aj, cj, rfl, hx, hr, _⟩ := HWS.out wr _ (HS9.out.trans (Stp.of_below HB.out)) k hlt
                have hmem := HMem.out k hlt
                have hcr := HC9.out.below HB.out
                have hRd := Read_tape hcr.tp hcr.dk HGd.out.ok HGd.out.on hcr.tab hmem (.inl rfl)
                have hkl : l[k].keys.length ≤ 1000 := HK.out _ (List.getElem_mem hlt)
                have e0 : wr.cell? ⟨s, 0, none⟩ = some (.pointer (some ⟨a.tp, 0, none⟩)) := hcr.own.1.cell 0
                generalize l[k] = x at *
                generalize ids[k] = id at *
                clear hmem hcr
                go_upto_region 27 with (fail)
                go_wp2_with (fail)
                refine hRd.mono ?_
                rintro e w10 ⟨Am, cm, rfl, hrm, hb⟩
                have hB11 := (Below.refl w10.heap.size w10).alloc (Nat.le_refl _) (.cells (recV (recOf x 1 0 7) Am cm) 56)
                have hb2 := hb.trans (hB11.mono hb.size)
                have HB11 := Lib.hid (HB.out.trans (hb2.mono HB.out.size))
                have HM11 := Lib.hid (Blk.new w10 (recV (recOf x 1 0 7) Am cm) 56)
                have HX11 := Lib.hid (And.intro ((hb2.cell (p := ⟨bb, _, none⟩) (cell_lt hx.1)).trans hx.1) (And.intro ((hb2.cell (p := ⟨bb, _, none⟩) (cell_lt hx.2.1)).trans hx.2.1) (And.intro ((hb2.cell (p := ⟨bb, _, none⟩) (cell_lt hx.2.2.1)).trans hx.2.2.1) (And.intro ((hb2.cell (p := ⟨bb, _, none⟩) (cell_lt hx.2.2.2.1)).trans hx.2.2.2.1) ((hb2.cell (p := ⟨bb, _, none⟩) (cell_lt hx.2.2.2.2)).trans hx.2.2.2.2)))))
                have hLk := like_any x Am Aj cm cj 1 0 7 ((w10.alloc (.cells (recV (recOf x 1 0 7) Am cm) 56)).drew) (hrm.below hB11.drew) (hr.below hb2.drew) hkl
                clear hRd hb hB11 hb2 hx hr hrm e0 hc1
                simp only [recV, recOf, wantV] at *
                go_upto_region 28 with (fail)
                generalize w10.alloc (.cells #[.int .i64 1, .int .i64 x.queue, .int .i64 0, .int .i64 0, .int .i64 0, .int .i64 7, .string (S x.topic), .string (S x.tag), .string (S x.body), .slice Am x.keys.length cm] 56) = w11 at *
                have e1 : w11.cell? ⟨w10.heap.size, 0, none⟩ = some (.int .i64 1) ∧ w11.cell? ⟨w10.heap.size, 1, none⟩ = some (.int .i64 x.queue) ∧ w11.cell? ⟨w10.heap.size, 2, none⟩ = some (.int .i64 0) ∧ w11.cell? ⟨w10.heap.size, 3, none⟩ = some (.int .i64 0) ∧ w11.cell? ⟨w10.heap.size, 4, none⟩ = some (.int .i64 0) ∧ w11.cell? ⟨w10.heap.size, 5, none⟩ = some (.int .i64 7) ∧ w11.cell? ⟨w10.heap.size, 6, none⟩ = some (.string (S x.topic)) ∧ w11.cell? ⟨w10.heap.size, 7, none⟩ = some (.string (S x.tag)) ∧ w11.cell? ⟨w10.heap.size, 8, none⟩ = some (.string (S x.body)) ∧ w11.cell? ⟨w10.heap.size, 9, none⟩ = some (.slice Am x.keys.length cm) ∧ w11.cell? ⟨bb, o + k * 5, none⟩ = some (.string (S x.topic)) ∧ w11.cell? ⟨bb, o + k * 5 + 1, none⟩ = some (.int .i64 x.queue) ∧ w11.cell? ⟨bb, o + k * 5 + 2, none⟩ = some (.string (S x.tag)) ∧ w11.cell? ⟨bb, o + k * 5 + 3, none⟩ = some (.slice Aj x.keys.length cj) ∧ w11.cell? ⟨bb, o + k * 5 + 4, none⟩ = some (.string (S x.body)) := And.intro (HM11.out.cell 0) (And.intro (HM11.out.cell 1) (And.intro (HM11.out.cell 2) (And.intro (HM11.out.cell 3) (And.intro (HM11.out.cell 4) (And.intro (HM11.out.cell 5) (And.intro (HM11.out.cell 6) (And.intro (HM11.out.cell 7) (And.intro (HM11.out.cell 8) (And.intro (HM11.out.cell 9) (And.intro (HX11.out.1) (And.intro (HX11.out.2.1) (And.intro (HX11.out.2.2.1) (And.intro (HX11.out.2.2.2.1) (HX11.out.2.2.2.2))))))))))))))
                refine wp_region_held_drew (S := fun w' => w'.cell? ⟨w10.heap.size, 0, none⟩ = some (.int .i64 1) ∧ w'.cell? ⟨w10.heap.size, 1, none⟩ = some (.int .i64 x.queue) ∧ w'.cell? ⟨w10.heap.size, 2, none⟩ = some (.int .i64 0) ∧ w'.cell? ⟨w10.heap.size, 3, none⟩ = some (.int .i64 0) ∧ w'.cell? ⟨w10.heap.size, 4, none⟩ = some (.int .i64 0) ∧ w'.cell? ⟨w10.heap.size, 5, none⟩ = some (.int .i64 7) ∧ w'.cell? ⟨w10.heap.size, 6, none⟩ = some (.string (S x.topic)) ∧ w'.cell? ⟨w10.heap.size, 7, none⟩ = some (.string (S x.tag)) ∧ w'.cell? ⟨w10.heap.size, 8, none⟩ = some (.string (S x.body)) ∧ w'.cell? ⟨w10.heap.size, 9, none⟩ = some (.slice Am x.keys.length cm) ∧ w'.cell? ⟨bb, o + k * 5, none⟩ = some (.string (S x.topic)) ∧ w'.cell? ⟨bb, o + k * 5 + 1, none⟩ = some (.int .i64 x.queue) ∧ w'.cell? ⟨bb, o + k * 5 + 2, none⟩ = some (.string (S x.tag)) ∧ w'.cell? ⟨bb, o + k * 5 + 3, none⟩ = some (.slice Aj x.keys.length cj) ∧ w'.cell? ⟨bb, o + k * 5 + 4, none⟩ = some (.string (S x.body))) (by kernel_rfl) e1 (fun hHeld => ?_)
                clear e1
                refine wpAnyH_take (i := 0) (oi := ⟨some 113, _, _, _, _, _⟩) (v := ?_) rfl (by kernel_rfl) (by kernel_rfl) (by kernel_rfl) (fun _ _ _ h => h) (Or.inl ⟨by rfl, (by intro w hSw; (try dsimp only at hSw); go_simp; try with_reducible rfl)⟩) hHeld ?_
                try simp only [Act.put, List.setIfInBounds_toArray, List.set_cons_zero, List.set_cons_succ]
                refine wpAnyH_take (i := 1) (oi := ⟨some 114, _, _, _, _, _⟩) (v := ?_) rfl (by kernel_rfl) (by kernel_rfl) (by kernel_rfl) (fun _ _ _ h => h) (Or.inl ⟨by rfl, (by intro w hSw; (try dsimp only at hSw); go_simp; try with_reducible rfl)⟩) hHeld ?_
                try simp only [Act.put, List.setIfInBounds_toArray, List.set_cons_zero, List.set_cons_succ]
                refine wpAnyH_take (i := 2) (oi := ⟨some 115, _, _, _, _, _⟩) (v := ?_) rfl (by kernel_rfl) (by kernel_rfl) (by kernel_rfl) (fun _ _ _ h => h) (Or.inl ⟨by rfl, (by intro w hSw; (try dsimp only at hSw); go_simp; try with_reducible rfl)⟩) hHeld ?_
                try simp only [Act.put, List.setIfInBounds_toArray, List.set_cons_zero, List.set_cons_succ]
                refine wpAnyH_take (i := 3) (oi := ⟨some 116, _, _, _, _, _⟩) (v := ?_) rfl (by kernel_rfl) (by kernel_rfl) (by kernel_rfl) (fun _ _ _ h => h) (Or.inl ⟨by rfl, (by intro w hSw; (try dsimp only at hSw); go_simp; try with_reducible rfl)⟩) hHeld ?_
                try simp only [Act.put, List.setIfInBounds_toArray, List.set_cons_zero, List.set_cons_succ]
                refine wpAnyH_take (i := 4) (oi := ⟨some 117, _, _, _, _, _⟩) (v := ?_) rfl (by kernel_rfl) (by kernel_rfl) (by kernel_rfl) (fun _ _ _ h => h) (Or.inl ⟨by rfl, (by intro w hSw; (try dsimp only at hSw); go_simp; try with_reducible rfl)⟩) hHeld ?_
                try simp only [Act.put, List.setIfInBounds_toArray, List.set_cons_zero, List.set_cons_succ]
                refine wpAnyH_take (i := 5) (oi := ⟨some 118, _, _, _, _, _⟩) (v := ?_) rfl (by kernel_rfl) (by kernel_rfl) (by kernel_rfl) (fun _ _ _ h => h) (Or.inl ⟨by rfl, (by intro w hSw; (try dsimp only at hSw); go_simp; try with_reducible rfl)⟩) hHeld ?_
                try simp only [Act.put, List.setIfInBounds_toArray, List.set_cons_zero, List.set_cons_succ]
                refine wpAnyH_take (i := 6) (oi := ⟨some 119, _, _, _, _, _⟩) (v := ?_) rfl (by kernel_rfl) (by kernel_rfl) (by kernel_rfl) (fun _ _ _ h => h) (Or.inl ⟨by rfl, (by intro w hSw; (try dsimp only at hSw); go_simp; try with_reducible rfl)⟩) hHeld ?_
                try simp only [Act.put, List.setIfInBounds_toArray, List.set_cons_zero, List.set_cons_succ]
                refine wpAnyH_take (i := 7) (oi := ⟨some 120, _, _, _, _, _⟩) (v := ?_) rfl (by kernel_rfl) (by kernel_rfl) (by kernel_rfl) (fun _ _ _ h => h) (Or.inl ⟨by rfl, (by intro w hSw; (try dsimp only at hSw); go_simp; try with_reducible rfl)⟩) hHeld ?_
                try simp only [Act.put, List.setIfInBounds_toArray, List.set_cons_zero, List.set_cons_succ]
                refine wpAnyH_ready (rs := [8]) (by kernel_rfl) (by simp) ?_
                refine AllReadyH.cons (o := ⟨some 121, _, _, _, _, _⟩) rfl (fun K hK => ?_) AllReadyH.nil
                go_simp
                refine hLk.mono ?_
                rintro e w12 ⟨rfl, hb12⟩
                have hS2 := And.intro ((HM11.out.drew.below hb12).cell 0) (And.intro ((HM11.out.drew.below hb12).cell 1) (And.intro ((HM11.out.drew.below hb12).cell 2) (And.intro ((HM11.out.drew.below hb12).cell 3) (And.intro ((HM11.out.drew.below hb12).cell 4) (And.intro ((HM11.out.drew.below hb12).cell 5) (And.intro ((HM11.out.drew.below hb12).cell 6) (And.intro ((HM11.out.drew.below hb12).cell 7) (And.intro ((HM11.out.drew.below hb12).cell 8) (And.intro ((HM11.out.drew.below hb12).cell 9) (And.intro ((hb12.cell (p := ⟨bb, _, none⟩) (cell_lt HX11.out.1)).trans HX11.out.1) (And.intro ((hb12.cell (p := ⟨bb, _, none⟩) (cell_lt HX11.out.2.1)).trans HX11.out.2.1) (And.intro ((hb12.cell (p := ⟨bb, _, none⟩) (cell_lt HX11.out.2.2.1)).trans HX11.out.2.2.1) (And.intro ((hb12.cell (p := ⟨bb, _, none⟩) (cell_lt HX11.out.2.2.2.1)).trans HX11.out.2.2.2.1) ((hb12.cell (p := ⟨bb, _, none⟩) (cell_lt HX11.out.2.2.2.2)).trans HX11.out.2.2.2.2))))))))))))))
                refine hK.out _ _ hS2 (fun hHeld => ?_)
                clear hK K
                try simp only [Act.put, List.setIfInBounds_toArray, List.set_cons_zero, List.set_cons_succ]
                refine wpAnyH_take (i := 9) (oi := ⟨some 122, _, _, _, _, _⟩) (v := ?_) rfl (by kernel_rfl) (by kernel_rfl) (by kernel_rfl) (fun _ _ _ h => h) (Or.inl ⟨by rfl, (by intro w hSw; (try dsimp only at hSw); go_simp; try with_reducible rfl)⟩) hHeld ?_
                try simp only [Act.put, List.setIfInBounds_toArray, List.set_cons_zero, List.set_cons_succ]
                refine wpAnyH_take (i := 10) (oi := ⟨some 123, _, _, _, _, _⟩) (v := ?_) rfl (by kernel_rfl) (by kernel_rfl) (by kernel_rfl) (fun _ _ _ h => h) (Or.inl ⟨by rfl, (by intro w hSw; (try dsimp only at hSw); go_simp; try with_reducible rfl)⟩) hHeld ?_
                try simp only [Act.put, List.setIfInBounds_toArray, List.set_cons_zero, List.set_cons_succ]
                refine wpAnyH_done (by kernel_rfl) ?_ _
                have hbd := (Below.refl w11.heap.size w11).drew.trans hb12
                have HB12 := Lib.hid (HB11.out.trans (hbd.mono HB11.out.size))
                clear hHeld hS2 hbd hb12 hLk HM11 HX11
                go_wp2
                exact ⟨⟨k + 1, hlt, by go_num, HB12⟩, by simp [intOf]; omega⟩
              · have hkn : k = l.length := by omega
                subst hkn
                go_wp2
                go_ret
                exact ⟨rfl, (HS9.out.trans (Stp.of_below HB.out)).below (fun k _ h => h rfl)⟩)
        · have hBad := All_bad (c := c) HC5.out (HWS.out wr χ4 HS5.out) HK.out (by decide) (by omega) (by rw [HEE.out]; exact hE) b
          rw [HEE.out] at hBad
          have hEb : (E != 0) = true := by simpa using hE
          unfold ptr at hBad
          go_wp2_with (fail)
          refine hBad.mono ?_
          rintro e w6 ⟨rfl, hb⟩
          have HC6 := Lib.hid (HC5.out.below hb)
          have HS6 := Lib.hid (HS5.out.trans (Stp.of_below hb))
          clear hBad hb HC5 HS5
          have hbn := Blk.new w6 #[.string ⟨#[]⟩, .int .i64 0, .string ⟨#[]⟩, .slice none 0 0, .string ⟨#[]⟩] 33
          have hNil := HNil.out w6.heap.size _ (fun j hj => by
            have hj0 : j = 0 := by simpa using hj
            subst hj0
            exact ⟨w6.heap.size, 0, none, 0, rfl, ⟨hbn.cell 0, hbn.cell 1, hbn.cell 2, hbn.cell 3, hbn.cell 4⟩, fun j hj => absurd hj (by simp), Nat.zero_le _⟩) b
          have HB7 := Lib.hid ((Below.refl w6.heap.size w6).alloc (Nat.le_refl _) (.cells #[.string ⟨#[]⟩, .int .i64 0, .string ⟨#[]⟩, .slice none 0 0, .string ⟨#[]⟩] 33))
          clear hbn HNil
          go_wp2_with (fail)
          refine hNil.mono ?_
          rintro e w7 ⟨rfl, hb⟩
          have hb7 := HB7.out.trans (hb.mono HB7.out.size)
          have HC7 := Lib.hid (HC6.out.below hb7)
          have HS7 := Lib.hid (HS6.out.trans (Stp.of_below hb7))
          have e0 : w7.cell? ⟨s, 0, none⟩ = some (.pointer (some ⟨a.tp, 0, none⟩)) := HC7.out.own.1.cell 0
          have hEn := End_tape HC7.out.tp
          rw [show tape0.row.fin = 0 from rfl] at hEn
          clear hNil hb hb7 HB7 HC6 HS6
          go_wp2_with (fail)
          refine hEn.mono ?_
          rintro e w8 ⟨rfl, rfl⟩
          go_wp2_with (fail)
          go_ret
          exact ⟨rfl, HS7.out.below (fun k _ h => h rfl)⟩

end Go.Proofs.YtnacjogdndggeaaGreatDoor
end
