/- Layer 22 (send): All, done. Layer 8 (tape): Ids from 0. Layer 6 (rec): the record of bytes. Layer 8 (tape): Read. -/
import Derived.Test.YtnacjogdndggeaaGreatDoorZ35
import Derived.Test.YtnacjogdndggeaaGreatDoorZ34
import Derived.Test.YtnacjogdndggeaaGreatDoorZ27
import Derived.Test.YtnacjogdndggeaaGreatDoorZ21
import Derived.Test.YtnacjogdndggeaaGreatDoorZ26
import Derived.Test.YtnacjogdndggeaaGreatDoorZ19
section
namespace Go.Proofs.YtnacjogdndggeaaGreatDoor
open Go.Shelf Go.RowKit Go.Lib
set_option maxRecDepth 100000
set_option maxHeartbeats 4000000

theorem Stp.grown {C : Nat → Prop} {χ χ1 : Col} {w w1 w2 : World} (h : Stp C χ w χ1 w1) {row : Option Nat} (hg : w1.grownBy w2 row) (hr : ∀ k, row = some k → w.heap.size ≤ k) : Stp C χ w χ1 w2 :=
  ⟨h.col, h.gr.trans' (G := fun k => row = some k) (Gr.of_grown hg (fun _ hk => .inl hk)) fun k hk => .inr (hr k hk)⟩

theorem Core.grow {χ χ' : Col} {w w' : World} {s : Nat} {a : SAddr} {now : Int} {T : TapeM} {L : Tops} {Pd : Pends} {D : Dsk} (h : Core χ w s a now T L Pd D) (st : Stp (· = 0) χ w χ' w') (ht : Tab χ' w') : Core χ' w' s a now T L Pd D where
  own := h.own.stp st (by decide)
  dk := h.dk.stp st (by decide)
  tp := h.tp.stp st (by decide) (by decide)
  tb := h.tb.stp st (by decide)
  pd := h.pd.stp st (by decide)
  tab := ht

/-- Records with their numbers. -/
def sentR (now : Int) (ids : List Nat) (l : List WantR) : List (Nat × Rec) := ids.zip (l.map fun x => recOf x 1 0 now)
theorem sentR_step {now : Int} {ids : List Nat} {l : List WantR} {k : Nat} (h : k < l.length) (hi : ids.length = k) (id : Nat) : sentR now (ids ++ [id]) (l.take (k + 1)) = sentR now ids (l.take k) ++ [(id, recOf l[k] 1 0 now)] := by
  unfold sentR
  rw [List.take_succ_eq_append_getElem h, List.map_append, List.zip_append]
  · rfl
  · rw [List.length_map, List.length_take]; omega

theorem natV_push (l : List Nat) (k : Nat) : natV (l ++ [k]) = natV l ++ [.int .i64 (k : Int)] := by
  unfold natV
  rw [List.map_append]
  rfl

/-- What holds after the first k of them were sent. -/
structure Sent (χ : Col) (w : World) (s : Nat) (a : SAddr) (now : Int) (T : TapeM) (L : Tops) (Pd : Pends) (D : Dsk) (l : List WantR) (b : Bool) (k : Nat) (χ' : Col) (w' : World) (vo : Value) (T' : TapeM) (D' : Dsk) (ids : List Nat) : Prop where
  stp : Stp (· ≠ 0) χ w χ' w'
  core : Core χ' w' s a now T' L Pd D'
  len : ids.length = k
  recs : T'.recs = T.recs ++ sentR now ids (l.take k)
  ample : Ample (l.length - k) T' D' Pd
  waits : k = l.length → b = true → D'.waits.length = 0
  row : w'.ownsRow w.heap.size 3 1 vo k (natV ids)
  col : ∀ g, vo.ownBlock = some g → χ' g = 0

theorem Sent.send {χ : Col} {w : World} {s : Nat} {a : SAddr} {now : Int} {T : TapeM} {L : Tops} {Pd : Pends} {D : Dsk} {l : List WantR} {b : Bool} {k : Nat} {χ' χ5 : Col} {wr w5 w7 : World} {vo v2 : Value} {T' : TapeM} {D' : Dsk} {ids : List Nat}
    (h : Sent χ w s a now T L Pd D l b k χ' wr vo T' D' ids) (hT : Tab χ w) (hlt : k < l.length) {b1 : Bool} (hb1 : k + 1 = l.length → b = true → b1 = true) (s5 : Stp (· ≠ 0) χ' wr χ5 w5) (c5 : Core χ5 w5 s a now (T'.put (recOf l[k] 1 0 now) b1) L Pd (T'.putD D' (recOf l[k] 1 0 now) b1)) (hr : rightF (recOf l[k] 1 0 now) = true)
    (hown : w7.ownsRow w.heap.size 3 1 v2 (k + 1) (natV ids ++ [.int .i64 ((T'.row1 (recOf l[k] 1 0 now)).fin : Int)])) (hg : (w5.alloc (.cells #[.int .i64 ((T'.row1 (recOf l[k] 1 0 now)).fin : Int)] 3)).grownBy w7 vo.ownBlock) (hat : v2.ownBlock = vo.ownBlock ∨ v2.ownBlock = some (w5.alloc (.cells #[.int .i64 ((T'.row1 (recOf l[k] 1 0 now)).fin : Int)] 3)).heap.size) :
    Sent χ w s a now T L Pd D l b (k + 1) (paint χ5 w5.heap.size 0) w7 v2 (T'.put (recOf l[k] 1 0 now) b1) (T'.putD D' (recOf l[k] 1 0 now) b1) (ids ++ [(T'.row1 (recOf l[k] 1 0 now)).fin]) := by
  have ha := h.ample
  rw [show l.length - k = (l.length - (k + 1)) + 1 by omega] at ha
  have hf : T'.row.fin + 2000 ≤ 90000000 := by have := ha.fin; omega
  have hS := (h.stp.trans s5).alloc (.cells #[.int .i64 ((T'.row1 (recOf l[k] 1 0 now)).fin : Int)] 3)
  have hS7 := (hS.grown hg (fun g hgr => (h.row.lt g hgr).1)).paint (n := w5.heap.size) (h.stp.trans s5).size 0
  have hz : ∀ g, vo.ownBlock = some g → paint χ5 w5.heap.size 0 g = 0 := fun g hgr => by
    have := s5.col g (h.row.lt g hgr).2
    rcases Nat.lt_or_ge g w5.heap.size with h1 | h1
    · rw [paint_old h1, this, h.col g hgr]
    · exact paint_new h1
  have hst : Stp (· = 0) χ5 w5 (paint χ5 w5.heap.size 0) w7 := (((Stp.refl _ χ5 w5).alloc (.cells #[.int .i64 ((T'.row1 (recOf l[k] 1 0 now)).fin : Int)] 3)).trans (Stp.of_grown hg (fun g hgr => .inl (by rw [s5.col g (h.row.lt g hgr).2, h.col g hgr])))).paint (Nat.le_refl _) 0
  exact {
    stp := hS7
    core := c5.grow hst (hT.stp hS7 (by decide))
    len := by rw [List.length_append, h.len]; rfl
    recs := by rw [TapeM.put_recs, h.recs, sentR_step hlt h.len, List.append_assoc]
    ample := ha.put hr (show (1 : Int) ≠ 0 by decide) b1
    waits := fun e1 e2 => (TapeM.putD_waits ha.good hr (show (1 : Int) ≠ 0 by decide) hf b1).2 (hb1 e1 e2)
    row := by rw [natV_push]; exact hown
    col := fun g hgr => by
      rcases hat with h1 | h1
      · exact hz g (h1.symm.trans hgr)
      · have := h1.symm.trans hgr
        injection this with this
        exact paint_new (by rw [← this]; simp) }

theorem All_good {w0 : World} {χ : Col} {w : World} {s c : Nat} {a : SAddr} {now : Int} {T : TapeM} {L : Tops} {Pd : Pends} {D : Dsk} {A : Option Addr} {l : List WantR} (h0 : Stp (· ≠ 0) (fun _ => 0) w0 χ w) (hW : WsA w0 A l) (hC : Core χ w s a now T L Pd D) (hk : ∀ x ∈ l, x.keys.length ≤ 1000) (hl : L.length ≤ 1000) (hll : l.length ≤ 1000) (hE : allE L l = 0)
    (hL : ∀ t ∈ L, plainF t.1 = true ∧ t.2 ≤ 3) (n0 : 0 ≤ now) (n1 : now ≤ 1099511626776) (hR : Ample l.length T D Pd) (hw : D.waits.length = 0) (b : Bool) :
    Calls Tryz.prog 10 #[ptr s, .bool b, .slice A l.length c] w fun e w' => ∃ A2 c2 χ' T' D' ids, e = .returned (.tuple #[.slice A2 l.length c2, .int .i64 0]) ∧ Sent χ w s a now T L Pd D l b l.length χ' w' (.slice A2 l.length c2) T' D' ids := by
  have HT := Lib.hid hC.tab
  have HC := Lib.hid hC
  have HW := Lib.hid (fun (W : World) (hb : Below w.heap.size w W) => hW.below ((h0.trans (Stp.of_below hb)).below (fun k _ h => h rfl)))
  have HWS := Lib.hid (fun (W : World) (χ' : Col) (hb : Stp (· ≠ 0) χ w χ' W) => hW.below ((h0.trans hb).below (fun k _ h => h rfl)))
  have HK := Lib.hid hk
  have HE := Lib.hid (allE_zero hE)
  have HB := Lib.hid (Below.refl w.heap.size w)
  have HST : Hid (∀ W, Below w.heap.size w W → W.ownsRow w.heap.size 3 1 (.slice none 0 0) 0 (natV []) → Sent χ w s a now T L Pd D l b 0 χ W (.slice none 0 0) T D []) := Lib.hid (fun W hb ho => {
    stp := Stp.of_below hb
    core := hC.below hb
    len := rfl
    recs := by rw [show sentR now [] (l.take 0) = [] from rfl, List.append_nil]
    ample := hR
    waits := fun _ _ => hw
    row := ho
    col := fun g hg => by cases hg })
  have HSd := Lib.hid (fun (χ' : Col) (W : World) (x : WantR) (Aj : Option Addr) (cj : Nat) (T' : TapeM) (D' : Dsk) (b1 : Bool) (hx : x ∈ l) (h : Core χ' W s a now T' L Pd D') (hr : RSa W Aj x.keys) (hR : Ready T' D' Pd) => Send_good (c := cj) h hr (hk x hx) hl (allE_zero hE x hx) hL n0 n1 hR b1)
  have HRT := Lib.hid (fun (x : WantR) (hx : x ∈ l) => right_of_send (allE_zero hE x hx) hL (kind := 1) (due := 0) (now := now) (.inl ⟨rfl, rfl⟩) (by omega) (by omega) n0 (by omega))
  obtain ⟨i0, hi, hz0, hz1, hz2⟩ := info_parts int_info
  clear hC hW hk hE h0 hR hw hL n0 n1
  unfold ptr at *
  go_enter Tryz.func10, Tryz.ntmps10
  go_upto_region 2 with (fail)
  go_loopw [18] (fun vi wr => ∃ k : Nat, k ≤ l.length ∧ vi = .int .i64 k ∧ Hid (Below w.heap.size w wr)) (fun vi _ => l.length - (intOf vi).toNat)
  case atStart => exact ⟨0, Nat.zero_le _, rfl, HB⟩
  case round =>
    clear HB
    obtain ⟨k, hk, rfl, HB⟩ := hrel
    by_cases hlt : k < l.length
    · obtain ⟨bb, o, Aj, cj, rfl, ⟨h0, h1, h2, h3, h4⟩, hr, hcj⟩ := HW.out _ HB.out k hlt
      have hkx := HK.out _ (List.getElem_mem hlt)
      have he := HE.out _ (List.getElem_mem hlt)
      generalize l[k] = x at *
      have hB2 := (Below.refl wr.heap.size wr).alloc (Nat.le_refl _) (.cells (wantV x Aj cj) 33)
      have HB2 := Lib.hid (HB.out.trans (hB2.mono HB.out.size))
      have HM2 := Lib.hid (Blk.new wr (wantV x Aj cj) 33)
      have hCk := Check_any (c := cj) (HC.out.below HB2.out) (hr.below hB2) hkx hl
      rw [he] at hCk
      have HV : Hid (wantV x Aj cj = #[.string (S x.topic), .int .i64 x.queue, .string (S x.tag), .slice Aj x.keys.length cj, .string (S x.body)]) := rfl
      clear hr hB2 he
      unfold ptr at *
      simp only [HV.out] at *
      go_upto_region 4 with (fail)
      generalize wr.alloc (.cells #[.string (S x.topic), .int .i64 x.queue, .string (S x.tag), .slice Aj x.keys.length cj, .string (S x.body)] 33) = w1 at *
      clear h0 h1 h2 h3 h4
      have m0 := HM2.out.cell 0
      have m1 := HM2.out.cell 1
      have m2 := HM2.out.cell 2
      have m3 := HM2.out.cell 3
      have m4 := HM2.out.cell 4
      go_wp2_with (fail)
      refine hCk.mono ?_
      rintro e w2 ⟨rfl, hb⟩
      have HB3 := Lib.hid (HB2.out.trans (hb.mono HB2.out.size))
      go_wp2
      exact ⟨⟨k + 1, hlt, by go_num, HB3⟩, by simp [intOf]; omega⟩
    · have hkn : k = l.length := by omega
      subst hkn
      have HSt0 := Lib.hid (HST.out wr HB.out (World.ownsRow_nil ..))
      clear HST HB hlt hk
      go_upto_region 10 with (fail)
      go_loopw [11, 31] (fun vo vi wz => ∃ k : Nat, k ≤ l.length ∧ vi = .int .i64 k ∧ ∃ χ' T' D' ids, Hid (Sent χ w s a now T L Pd D l b k χ' wz vo T' D' ids)) (fun _ vi _ => l.length - (intOf vi).toNat)
      case atStart => exact ⟨0, Nat.zero_le _, rfl, χ, T, D, [], HSt0⟩
      case round =>
        clear HSt0
        obtain ⟨k, hk, rfl, χ', T', D', ids, HS⟩ := hrel
        by_cases hlt : k < l.length
        · obtain ⟨bb, o, Aj, cj, rfl, ⟨h0, h1, h2, h3, h4⟩, hr, hcj⟩ := HWS.out wr χ' HS.out.stp k hlt
          have hxm := List.getElem_mem hlt
          have HRx := Lib.hid (HRT.out _ hxm)
          have hB2 := (Below.refl wr.heap.size wr).alloc (Nat.le_refl _) (.cells (wantV l[k] Aj cj) 33)
          have HM2 := Lib.hid (Blk.new wr (wantV l[k] Aj cj) 33)
          have hbq : ∃ b1, b1 = (b && decide (k + 1 = l.length)) := ⟨_, rfl⟩
          obtain ⟨b1, hb1⟩ := hbq
          have hb1' : k + 1 = l.length → b = true → b1 = true := fun e1 e2 => by rw [hb1, e1, e2]; simp
          have hS := HSd.out χ' _ l[k] Aj cj T' D' b1 hxm (HS.out.core.below hB2) (hr.below hB2) (by
            have ha := HS.out.ample
            rw [show l.length - k = (l.length - (k + 1)) + 1 by omega] at ha
            exact ha.ready)
          have HSn := Lib.hid (fun χ5 w5 w7 v2 (s5 : Stp (· ≠ 0) χ' (wr.alloc (.cells (wantV l[k] Aj cj) 33)) χ5 w5) c5 hown hg hat => HS.out.send HT.out hlt hb1' (w7 := w7) (v2 := v2) (((Stp.of_below (C := (· ≠ 0)) (χ := χ') hB2)).trans s5) c5 HRx.out hown hg hat)
          have HV : Hid (wantV l[k] Aj cj = #[.string (S l[k].topic), .int .i64 l[k].queue, .string (S l[k].tag), .slice Aj l[k].keys.length cj, .string (S l[k].body)]) := rfl
          have hrw := Lib.hid (fun χ5 w5 (s5 : Stp (· ≠ 0) χ' (wr.alloc (.cells (wantV l[k] Aj cj) 33)) χ5 w5) => ownsRow_stp HS.out.row (((Stp.of_below (C := (· ≠ 0)) (χ := χ') hB2)).trans s5) (fun g hg h => h (HS.out.col g hg)))
          have hrz := Lib.hid ((HS.out.stp.size))
          have hfl := Lib.hid (HS.out.ample.recs)
          have hmx : k + 1 ≤ maxLen := by unfold maxLen; omega
          have hby : (k + 1) * 8 ≤ 140737488355328 := by omega
          obtain ⟨Ao, co, rfl⟩ := row_any HS.out.row
          unfold ptr at *
          simp only [HV.out] at *
          generalize l[k] = x at *
          generalize (T'.row1 (recOf x 1 0 now)).fin = id at *
          clear hxm hB2 hr HV
          go_upto_region 12 with (fail)
          generalize wr.alloc (.cells #[.string (S x.topic), .int .i64 x.queue, .string (S x.tag), .slice Aj x.keys.length cj, .string (S x.body)] 33) = w1 at *
          clear h0 h1 h2 h3 h4
          have m0 := HM2.out.cell 0
          have m1 := HM2.out.cell 1
          have m2 := HM2.out.cell 2
          have m3 := HM2.out.cell 3
          have m4 := HM2.out.cell 4
          have q : ((k : Int) == (l.length : Int) - 1) = decide (k + 1 = l.length) := by
            rw [Bool.eq_iff_iff]
            simp
            omega
          generalize decide (k + 1 = l.length) = dk at *
          cases b <;> cases dk <;> (
            simp at hb1
            subst hb1
            go_wp2_with (fail)
            refine hS.mono ?_
            rintro e w5 ⟨rfl, χ5, s5, hc5⟩
            have hown1 := (hrw.out χ5 w5 s5).alloc (.cells #[.int .i64 (id : Int)] 3)
            have hbase : w.heap.size ≤ (w5.alloc (.cells #[.int .i64 (id : Int)] 3)).heap.size := by
              have h1 := hrz.out
              have h2 := s5.size
              have h3 := HM2.out.lt
              simp only [World.size_alloc]
              omega
            go_upto_region 16 with (at_builtin; refine wpList_append_own_at _ rfl _ _ 35 rfl w.heap.size 3 i0 _ 1 8 Tryz.underlying35 hi hz0 hz1 hz2 rfl (by decide) _ _ _ rfl hown1 ⟨w5.heap.size, 0, none⟩ 1 1 [.int .i64 (id : Int)] rfl rfl (cell_one_new w5 _ _) (by simp [Value.oneCell']) hmx hby hbase ?_; intro v2 w7 hown7 hg7 _ hat7)
            have HN := Lib.hid (HSn.out χ5 w5 w7 v2 s5 hc5 hown7 hg7 hat7)
            clear hown1 hown7 hg7 hat7 s5 hc5 hS
            go_wp2
            exact ⟨⟨k + 1, hlt, by go_num, _, _, _, _, HN⟩, by simp [intOf]; omega⟩)
        · have hkn : k = l.length := by omega
          subst hkn
          obtain ⟨Ao, co, rfl⟩ := row_any HS.out.row
          go_wp2
          go_ret2
          exact ⟨Ao, co, χ', T', D', ids, rfl, HS.out⟩

end Go.Proofs.YtnacjogdndggeaaGreatDoor
end

section
namespace Go.Proofs.YtnacjogdndggeaaGreatDoor
open Go.Shelf Go.RowKit Go.Lib
set_option maxRecDepth 100000
set_option maxHeartbeats 1000000

theorem ids_row {w : World} {v : Value} {l : List Nat} {n : Nat} (h : w.ownsRow 0 3 1 v (n + 1) (natV l)) : ∃ g cap, v = .slice (some ⟨g, 0, none⟩) (n + 1) cap ∧ n + 1 ≤ cap := by
  rcases h.2 with ⟨_, h0⟩ | ⟨g, cap, cur, e, _, _, hc, _⟩
  · omega
  · exact ⟨g, cap, e, hc⟩

theorem place_zero {χ : Col} {c cr t d : Nat} {T : TapeM} {w : World} (h : IsTape χ c cr w t d T) (hok : T.Ok) (hN : T.recs.length ≤ 1000000) {n : Nat} (hn : T.recs.length = n + 1) :
    Calls Tryz.prog 29 #[.pointer (some ⟨t, 0, none⟩), .int .i64 0] w fun e w' => e = .returned (.int .i64 0) ∧ Below w.heap.size w w' := by
  obtain ⟨r, g, m, iv, h⟩ := h
  have hi := h.ids
  rw [hn] at hi
  obtain ⟨g2, cap, rfl, hcap⟩ := ids_row hi
  have hlen : (T.ids.map (fun n : Nat => (n : Int))).length = n + 1 := by rw [List.length_map]; unfold TapeM.ids; rw [List.length_map, hn]
  have hcell : ∀ j, j < (T.ids.map (fun n : Nat => (n : Int))).length → w.cell? ⟨g2, 0 + j, none⟩ = some (.int .i64 ((T.ids.map (fun n : Nat => (n : Int))).getD j 0)) := fun j hj => by
    have hj2 : j < T.ids.length := by simpa using hj
    have := hi.cells (g := g2) rfl j (.int .i64 (T.ids[j] : Int)) (natV_get _ j hj2)
    rw [Addr.add_mid] at this
    rw [this]
    simp [List.getD_eq_getElem?_getD, hj2]
  have hsort : ((T.ids.map (fun n : Nat => (n : Int))).take (n + 1)).Pairwise (· ≤ ·) := by
    rw [← hlen, List.take_length, List.pairwise_map]
    unfold TapeM.ids
    rw [List.pairwise_map]
    exact hok.rise.imp fun h => by omega
  have hb := Tryz.slices_BinarySearch_int g2 0 (n + 1) cap (T.ids.map (fun n : Nat => (n : Int))) 0 w (by omega) (by omega) hcell hsort
  rw [show ((T.ids.map (fun n : Nat => (n : Int))).take (n + 1)).countP (· < 0) = 0 by
    rw [← hlen, List.take_length, List.countP_eq_zero]
    intro a ha
    obtain ⟨k, _, rfl⟩ := List.mem_map.1 ha
    simp] at hb
  generalize ((T.ids.map (fun n : Nat => (n : Int))).take (n + 1)).contains 0 = bb at *
  have c2 := h.own.1.cell 2
  clear h hi hcell hsort hlen
  go_enter Tryz.func29, Tryz.ntmps29
  go_wp2_with (fail)
  refine hb.mono ?_
  rintro e w' ⟨rfl, q, rfl⟩
  clear hb
  go_wp2
  go_ret
  exact ⟨rfl, below_drewN _ _⟩

theorem Ids_zero {χ : Col} {c cr t d : Nat} {T : TapeM} {w : World} (h : IsTape χ c cr w t d T) (hok : T.Ok) (hN : T.recs.length ≤ 1000000) :
    Calls Tryz.prog 13 #[.pointer (some ⟨t, 0, none⟩), .int .i64 0] w fun e w' => ∃ A cap, e = .returned (.slice A T.recs.length cap) ∧ NSa w' A T.ids ∧ Below w.heap.size w w' := by
  cases hr : T.recs with
  | nil =>
    have hids : T.ids = [] := by unfold TapeM.ids; rw [hr]; rfl
    rw [hids]
    refine (Ids_none h hr 0).mono ?_
    rintro e w' ⟨A, cap, rfl, hb⟩
    exact ⟨A, cap, rfl, fun j hj => absurd hj (by simp), hb⟩
  | cons x r =>
    have hn : T.recs.length = r.length + 1 := by rw [hr]; rfl
    rw [show (x :: r).length = r.length + 1 from rfl]
    generalize r.length = n at *
    have hp := fun (W : World) (h : IsTape χ c cr W t d T) => place_zero h hok hN hn
    have HT := Lib.hid h
    obtain ⟨rr, g, m, iv, h⟩ := h
    have hi := h.ids
    rw [hn] at hi
    have hlt := h.own.1.lt
    obtain ⟨g2, cap, rfl, hcap⟩ := ids_row hi
    have c2 : w.drew.cell? ⟨t, 2, none⟩ = some (.slice (some ⟨g2, 0, none⟩) (n + 1) cap) := h.own.1.cell 2
    have hlen : (T.ids.map (fun n : Nat => (n : Int))).length = n + 1 := by rw [List.length_map]; unfold TapeM.ids; rw [List.length_map, hn]
    have hcell : Hid (∀ j, j < (T.ids.map (fun n : Nat => (n : Int))).length → w.cell? ⟨g2, 0 + j, none⟩ = some (.int .i64 ((T.ids.map (fun n : Nat => (n : Int))).getD j 0))) := Lib.hid fun j hj => by
      have hj2 : j < T.ids.length := by simpa using hj
      have := hi.cells (g := g2) rfl j (.int .i64 (T.ids[j] : Int)) (natV_get _ j hj2)
      rw [Addr.add_mid] at this
      rw [this]
      simp [List.getD_eq_getElem?_getD, hj2]
    have HV : Hid (((T.ids.map (fun n : Nat => (n : Int))).take (n + 1)).map (Value.int .i64) = natV T.ids) := Lib.hid (by
      rw [← hlen, List.take_length]
      simp [natV])
    have HCl := Lib.hid (fun (W : World) hc => Tryz.slices_Clone_int g2 0 (n + 1) cap (T.ids.map (fun n : Nat => (n : Int))) W (by omega) (by omega) hc)
    have HL := Lib.hid (show T.ids.length = n + 1 by simpa using hlen)
    clear h hi hr hlen hn
    have i0 : (0 : Int) ≤ (n : Int) + 1 := by omega
    go_enter Tryz.func13, Tryz.ntmps13
    go_upto_region 3 with (fail)
    refine wp_region_held_drew (S := fun w' => w'.cell? ⟨t, 2, none⟩ = some (.slice (some ⟨g2, 0, none⟩) (n + 1) cap)) (by kernel_rfl) c2 (fun hHeld => ?_)
    have hp1 := hp w.drew HT.out.drew
    have hB0 := (Below.refl w.heap.size w).drew
    have ht1 := hlt
    generalize w.drew = w1 at *
    refine wpAnyH_take (i := 0) (oi := ⟨some 7, _, _, _, _, _⟩) (v := ?_) rfl (by kernel_rfl) (by kernel_rfl) (by kernel_rfl) (fun _ _ _ h => h) (Or.inl ⟨by rfl, (by intro w hSw; (try dsimp only at hSw); go_simp; try with_reducible rfl)⟩) hHeld ?_
    try simp only [Act.put, List.setIfInBounds_toArray, List.set_cons_zero, List.set_cons_succ]
    refine wpAnyH_take (i := 1) (oi := ⟨some 8, _, _, _, _, _⟩) (v := ?_) rfl (by kernel_rfl) (by kernel_rfl) (by kernel_rfl) (fun _ _ _ h => h) (Or.inl ⟨by rfl, (by intro w hSw; (try dsimp only at hSw); go_simp; try with_reducible rfl)⟩) hHeld ?_
    try simp only [Act.put, List.setIfInBounds_toArray, List.set_cons_zero, List.set_cons_succ]
    refine wpAnyH_take (i := 2) (oi := ⟨some 9, _, _, _, _, _⟩) (v := ?_) rfl (by kernel_rfl) (by kernel_rfl) (by kernel_rfl) (fun _ _ _ h => h) (Or.inl ⟨by rfl, (by intro w hSw; (try dsimp only at hSw); go_simp; try with_reducible rfl)⟩) hHeld ?_
    try simp only [Act.put, List.setIfInBounds_toArray, List.set_cons_zero, List.set_cons_succ]
    refine wpAnyH_take (i := 3) (oi := ⟨some 10, _, _, _, _, _⟩) (v := ?_) rfl (by kernel_rfl) (by kernel_rfl) (by kernel_rfl) (fun _ _ _ h => h) (Or.inl ⟨by rfl, (by intro w hSw; (try dsimp only at hSw); go_simp; try with_reducible rfl)⟩) hHeld ?_
    try simp only [Act.put, List.setIfInBounds_toArray, List.set_cons_zero, List.set_cons_succ]
    refine wpAnyH_take (i := 4) (oi := ⟨some 11, _, _, _, _, _⟩) (v := ?_) rfl (by kernel_rfl) (by kernel_rfl) (by kernel_rfl) (fun _ _ _ h => h) (Or.inl ⟨by rfl, (by intro w hSw; (try dsimp only at hSw); go_simp; try with_reducible rfl)⟩) hHeld ?_
    try simp only [Act.put, List.setIfInBounds_toArray, List.set_cons_zero, List.set_cons_succ]
    refine wpAnyH_take (i := 5) (oi := ⟨some 12, _, _, _, _, _⟩) (v := ?_) rfl (by kernel_rfl) (by kernel_rfl) (by kernel_rfl) (fun _ _ _ h => h) (Or.inl ⟨by rfl, (by intro w hSw; (try dsimp only at hSw); go_simp; try with_reducible rfl)⟩) hHeld ?_
    try simp only [Act.put, List.setIfInBounds_toArray, List.set_cons_zero, List.set_cons_succ]
    refine wpAnyH_ready (rs := [6]) (by kernel_rfl) (by simp) ?_
    refine AllReadyH.cons (o := ⟨some 13, _, _, _, _, _⟩) rfl (fun K hK => ?_) AllReadyH.nil
    go_simp
    refine hp1.mono ?_
    rintro e w2 ⟨rfl, hb1⟩
    have HB2 := Lib.hid (hB0.trans (hb1.mono hB0.size))
    have hS2 := (hb1.cell (p := ⟨t, 2, none⟩) (cell_lt hHeld)).trans hHeld
    refine hK.out _ _ hS2 (fun hHeld => ?_)
    clear hK K
    try simp only [Act.put, List.setIfInBounds_toArray, List.set_cons_zero, List.set_cons_succ]
    refine wpAnyH_take (i := 7) (oi := ⟨some 14, _, _, _, _, _⟩) (v := ?_) rfl (by kernel_rfl) (by kernel_rfl) (by kernel_rfl) (fun _ _ _ h => h) (Or.inl ⟨by rfl, (by intro w hSw; (try dsimp only at hSw); go_simp; try with_reducible rfl)⟩) hHeld ?_
    try simp only [Act.put, List.setIfInBounds_toArray, List.set_cons_zero, List.set_cons_succ]
    refine wpAnyH_ready (rs := [8]) (by kernel_rfl) (by simp) ?_
    refine AllReadyH.cons (o := ⟨some 15, _, _, _, _, _⟩) rfl (fun K hK => ?_) AllReadyH.nil
    go_simp
    refine (HCl.out w2 (fun j hj => (HB2.out.cell (cell_lt (hcell.out j hj))).trans (hcell.out j hj))).mono ?_
    rintro e w3 ⟨v, rfl, hv, _, hb⟩
    have HB3 := Lib.hid (HB2.out.trans (hb.mono HB2.out.size))
    have hS2 := (hb.cell (p := ⟨t, 2, none⟩) (cell_lt hS2)).trans hS2
    obtain ⟨A2, cap2, rfl⟩ := row_any hv
    rw [HV.out] at hv
    refine hK.out _ _ hS2 (fun hHeld => ?_)
    clear hK K
    try simp only [Act.put, List.setIfInBounds_toArray, List.set_cons_zero, List.set_cons_succ]
    refine wpAnyH_take (i := 9) (oi := ⟨some 4, _, _, _, _, _⟩) (v := ?_) rfl (by kernel_rfl) (by kernel_rfl) (by kernel_rfl) (fun _ _ _ h => h) (Or.inl ⟨by rfl, (by intro w hSw; (try dsimp only at hSw); go_simp; try with_reducible rfl)⟩) hHeld ?_
    try simp only [Act.put, List.setIfInBounds_toArray, List.set_cons_zero, List.set_cons_succ]
    refine wpAnyH_done (by kernel_rfl) ?_ _
    go_wp2
    go_ret
    exact ⟨A2, cap2, rfl, NSa_of_row (base := w2.heap.size) (by rw [HL.out]; exact hv), HB3.out⟩

end Go.Proofs.YtnacjogdndggeaaGreatDoor
end

section
namespace Go.Proofs.YtnacjogdndggeaaGreatDoor
open Go.Shelf Go.RowKit Go.Lib
set_option maxRecDepth 100000
set_option maxHeartbeats 2000000

theorem get_steps (m : Rec) (h : rightF m = true) (h0 : m.kind ≠ 0) (r : List UInt8) : ∃ s1 s2 : List UInt8,
    takeF (putF m ++ r) 0 1 = ([165], s1, 0) ∧ numF s1 0 2 = (((putF m).length : Int), s2, 0) ∧ takeF s2 0 (max (((putF m).length : Int) - 3) 0) = (sealF (insideF m), r, 0) := by
  have hin := inside_le (right_within h h0)
  have hsl := sealF_len (insideF m)
  have hp : putF m = 165 :: be 2 (3 + (sealF (insideF m)).length) ++ sealF (insideF m) := by unfold putF; rw [if_neg h0]
  have hpl : (putF m).length = 3 + (sealF (insideF m)).length := by rw [hp]; simp; omega
  rw [hpl, hp]
  generalize sealF (insideF m) = q at *
  refine ⟨be 2 (3 + q.length) ++ (q ++ r), q ++ r, ?_, ?_, ?_⟩
  · unfold takeF
    rw [if_neg (by simp), if_neg (by omega), if_neg (by simp; omega)]
    simp
  · have := numF_be 2 ((3 + q.length : Nat) : Int) (q ++ r) (by omega) (by omega) (by omega) (by rw [Int.toNat_natCast]; omega)
    rw [Int.toNat_natCast] at this
    exact this
  · have : max (((3 + q.length : Nat) : Int) - 3) 0 = (q.length : Int) := by omega
    rw [this]
    unfold takeF
    rw [if_neg (by simp), if_neg (by omega), if_neg (by simp; omega)]
    simp

theorem Get_good (g : Nat) (m : Rec) (r : List UInt8) (w : World) (hT : IsTab g w) (h : rightF m = true) (hk : m.kind = 1 ∨ m.kind = 2) (hrl : r.length ≤ 100000) :
    Calls Tryz.prog 32 #[.pointer (some ⟨g, 0, none⟩), .string (S (putF m ++ r))] w fun e w' => ∃ A c, e = .returned (.tuple #[.agg (recV m A c), .int .i64 (putF m).length, .int .i64 0]) ∧ RSa w' A m.keys ∧ Below w.heap.size w w' ∧ (∀ b o, A = some ⟨b, o, none⟩ → w.heap.size ≤ b) := by
  have h0 : m.kind ≠ 0 := by omega
  obtain ⟨s1, s2, t1, t2, t3⟩ := get_steps m h h0 r
  have hpl := putF_len m h h0
  have hin := inside_le (right_within h h0)
  have HO := Lib.hid (fun (w : World) => opened_good m w h hk)
  have HC := Lib.hid (fun (w : World) (hT : IsTab g w) => Open_sealed g (insideF m) w hT (by omega))
  have hql : (sealF (insideF m)).length ≤ 400 := by rw [sealF_len]; omega
  have hsl : 35 ≤ (putF m ++ r).length ∧ (putF m ++ r).length ≤ 200000 := by rw [List.length_append]; omega
  clear hin h
  generalize insideF m = im at *
  generalize sealF im = q at *
  generalize putF m ++ r = s0 at *
  generalize (putF m).length = N at *
  obtain ⟨kind, queue, due, retry, ref, born, topic, tag, body, keys⟩ := m
  simp only [recV] at *
  have i1 : ¬ s0.length < 3 := by omega
  have i2 : ¬ (s0.length : Int) < 3 := by omega
  have i3 : ¬ N < 3 := by omega
  have i4 : ¬ (N : Int) < 3 := by omega
  have HB := Lib.hid ((Below.refl w.heap.size w).alloc (Nat.le_refl _) (.cells #[.int .i64 0, .int .i64 0, .int .i64 0, .int .i64 0, .int .i64 0, .int .i64 0, .string ⟨#[]⟩, .string ⟨#[]⟩, .string ⟨#[]⟩, .slice none 0 0] 56))
  have HRB := Lib.hid (Blk.new w #[.int .i64 0, .int .i64 0, .int .i64 0, .int .i64 0, .int .i64 0, .int .i64 0, .string ⟨#[]⟩, .string ⟨#[]⟩, .string ⟨#[]⟩, .slice none 0 0] 56)
  have HT := Lib.hid (Blk.below hT HB.out)
  clear hT
  go_enter Tryz.func32, Tryz.ntmps32
  go_upto_region 1 with (fail)
  generalize w.alloc (.cells #[.int .i64 0, .int .i64 0, .int .i64 0, .int .i64 0, .int .i64 0, .int .i64 0, .string ⟨#[]⟩, .string ⟨#[]⟩, .string ⟨#[]⟩, .slice none 0 0] 56) = w1 at *
  go_wp2_with (fail)
  refine (New_any s0 w1).mono ?_
  rintro e w2 ⟨rfl, hR, hb⟩
  have HRB2 := Lib.hid (HRB.out.below hb)
  have HB2 := Lib.hid (HB.out.trans (hb.mono HB.out.size))
  have HT2 := Lib.hid (Blk.below HT.out hb)
  have HR2 := Lib.hid hR
  have hg1 : w.heap.size < w1.heap.size := HRB.out.lt
  have hg2 : g < w1.heap.size := Blk.lt HT.out
  have hgn : w1.heap.size ≠ w.heap.size := by omega
  have hgt : w1.heap.size ≠ g := by omega
  generalize w1.heap.size = rd at *
  clear hb hR HRB HB HT
  have hc := Take_any rd s0 0 1 w2 HR2.out
  rw [t1] at hc
  dsimp only at hc
  rw [show S [165] = (⟨#[165]⟩ : ByteArray) from rfl] at hc
  go_wp2_with (fail)
  refine hc.mono ?_
  rintro e w3 ⟨rfl, hR, ho⟩
  have HR3 := Lib.hid hR
  have HRB3 := Lib.hid (HRB2.out.grown ho (fun e => hgn (by injection e)))
  have HT3 := Lib.hid (Blk.grown HT2.out ho (fun e => hgt (by injection e)))
  have HB3 := Lib.hid (below_only HB2.out ho (by omega) HB2.out.size)
  clear hc hR ho HR2 HRB2 HT2 HB2 t1
  have hc := RNum_any rd s1 0 2 w3 HR3.out
  rw [t2] at hc
  dsimp only at hc
  go_wp2_with (fail)
  refine hc.mono ?_
  rintro e w4 ⟨rfl, hR, ho⟩
  have HR4 := Lib.hid hR
  have HRB4 := Lib.hid (HRB3.out.grown ho (fun e => hgn (by injection e)))
  have HT4 := Lib.hid (Blk.grown HT3.out ho (fun e => hgt (by injection e)))
  have HB4 := Lib.hid (below_only HB3.out ho (by omega) HB3.out.size)
  clear hc hR ho HR3 HRB3 HT3 HB3 t2
  have hc := Take_any rd s2 0 (max ((N : Int) - 3) 0) w4 HR4.out
  rw [t3] at hc
  dsimp only at hc
  have hwr : wrap64 ((N : Int) - 3) = (N : Int) - 3 := IntWalk.wrap64_in _ (by omega)
  go_wp2_with (fail)
  refine hc.mono ?_
  rintro e w5 ⟨rfl, hR, ho⟩
  have HR5 := Lib.hid hR
  have HRB5 := Lib.hid (HRB4.out.grown ho (fun e => hgn (by injection e)))
  have HT5 := Lib.hid (Blk.grown HT4.out ho (fun e => hgt (by injection e)))
  have HB5 := Lib.hid (below_only HB4.out ho (by omega) HB4.out.size)
  clear hc hR ho HR4 HRB4 HT4 HB4 t3 hwr
  go_wp2_with (fail)
  refine (Err_any rd r 0 w5 HR5.out).mono ?_
  rintro e w' ⟨rfl, rfl⟩
  clear HR5
  go_wp2_with (fail)
  refine (HC.out w5 HT5.out).mono ?_
  rintro e w6 ⟨rfl, hb⟩
  have HRB6 := Lib.hid (HRB5.out.below hb)
  have HB6 := Lib.hid (HB5.out.trans (hb.mono HB5.out.size))
  clear hb HRB5 HT5 HB5
  go_wp2_with (fail)
  refine (HO.out w6).mono ?_
  rintro e w7 ⟨A, cap, rfl, hv, hb, hAb⟩
  have hba := (Below.refl w7.heap.size w7).alloc (Nat.le_refl _) (.cells #[.int .i64 kind, .int .i64 queue, .int .i64 due, .int .i64 retry, .int .i64 ref, .int .i64 born, .string (S topic), .string (S tag), .string (S body), .slice A keys.length cap] 56)
  have hbb := hb.trans (hba.mono hb.size)
  have HRB8 := Lib.hid (HRB6.out.below hbb)
  have HB8 := Lib.hid (HB6.out.trans (hbb.mono HB6.out.size))
  have HV8 := Lib.hid (hv.below hba)
  have hm8 := Blk.new w7 #[.int .i64 kind, .int .i64 queue, .int .i64 due, .int .i64 retry, .int .i64 ref, .int .i64 born, .string (S topic), .string (S tag), .string (S body), .slice A keys.length cap] 56
  have hw6 : w.heap.size < w6.heap.size := HRB6.out.lt
  have HM8 := Lib.hid hm8
  clear hb hba hbb hv hm8 HRB6 HB6 HO HC
  go_upto_region 24 with (fail)
  generalize w7.alloc (.cells #[.int .i64 kind, .int .i64 queue, .int .i64 due, .int .i64 retry, .int .i64 ref, .int .i64 born, .string (S topic), .string (S tag), .string (S body), .slice A keys.length cap] 56) = w8 at *
  have HM := HM8.out
  have c0 := HRB8.out.cell 0
  have f0 := HRB8.out.frozen 0
  have m0 := HM.cell 0
  have c1 := HRB8.out.cell 1
  have f1 := HRB8.out.frozen 1
  have m1 := HM.cell 1
  have c2 := HRB8.out.cell 2
  have f2 := HRB8.out.frozen 2
  have m2 := HM.cell 2
  have c3 := HRB8.out.cell 3
  have f3 := HRB8.out.frozen 3
  have m3 := HM.cell 3
  have c4 := HRB8.out.cell 4
  have f4 := HRB8.out.frozen 4
  have m4 := HM.cell 4
  have c5 := HRB8.out.cell 5
  have f5 := HRB8.out.frozen 5
  have m5 := HM.cell 5
  have c6 := HRB8.out.cell 6
  have f6 := HRB8.out.frozen 6
  have m6 := HM.cell 6
  have c7 := HRB8.out.cell 7
  have f7 := HRB8.out.frozen 7
  have m7 := HM.cell 7
  have c8 := HRB8.out.cell 8
  have f8 := HRB8.out.frozen 8
  have m8 := HM.cell 8
  have c9 := HRB8.out.cell 9
  have f9 := HRB8.out.frozen 9
  have m9 := HM.cell 9
  clear HM
  have hx := ((((((((((HRB8.out.set 0 (.int .i64 kind)).set 1 (.int .i64 queue)).set 2 (.int .i64 due)).set 3 (.int .i64 retry)).set 4 (.int .i64 ref)).set 5 (.int .i64 born)).set 6 (.string (S topic))).set 7 (.string (S tag))).set 8 (.string (S body))).set 9 (.slice A keys.length cap))
  simp only [List.setIfInBounds_toArray, List.set_cons_zero, List.set_cons_succ] at hx
  have HRB9 := Lib.hid hx
  clear hx
  have HB9 := Lib.hid ((((((((((HB8.out.setCell (p := ⟨w.heap.size, 0, none⟩) (Nat.le_refl _) (.int .i64 kind)).setCell (p := ⟨w.heap.size, 1, none⟩) (Nat.le_refl _) (.int .i64 queue)).setCell (p := ⟨w.heap.size, 2, none⟩) (Nat.le_refl _) (.int .i64 due)).setCell (p := ⟨w.heap.size, 3, none⟩) (Nat.le_refl _) (.int .i64 retry)).setCell (p := ⟨w.heap.size, 4, none⟩) (Nat.le_refl _) (.int .i64 ref)).setCell (p := ⟨w.heap.size, 5, none⟩) (Nat.le_refl _) (.int .i64 born)).setCell (p := ⟨w.heap.size, 6, none⟩) (Nat.le_refl _) (.string (S topic))).setCell (p := ⟨w.heap.size, 7, none⟩) (Nat.le_refl _) (.string (S tag))).setCell (p := ⟨w.heap.size, 8, none⟩) (Nat.le_refl _) (.string (S body))).setCell (p := ⟨w.heap.size, 9, none⟩) (Nat.le_refl _) (.slice A keys.length cap))
  have HV9 := Lib.hid (HV8.out.gr (((((((((((Gr.refl (fun k => k = w.heap.size) w8).set (p := ⟨w.heap.size, 0, none⟩) (.inl rfl) (.int .i64 kind)).set (p := ⟨w.heap.size, 1, none⟩) (.inl rfl) (.int .i64 queue)).set (p := ⟨w.heap.size, 2, none⟩) (.inl rfl) (.int .i64 due)).set (p := ⟨w.heap.size, 3, none⟩) (.inl rfl) (.int .i64 retry)).set (p := ⟨w.heap.size, 4, none⟩) (.inl rfl) (.int .i64 ref)).set (p := ⟨w.heap.size, 5, none⟩) (.inl rfl) (.int .i64 born)).set (p := ⟨w.heap.size, 6, none⟩) (.inl rfl) (.string (S topic))).set (p := ⟨w.heap.size, 7, none⟩) (.inl rfl) (.string (S tag))).set (p := ⟨w.heap.size, 8, none⟩) (.inl rfl) (.string (S body))).set (p := ⟨w.heap.size, 9, none⟩) (.inl rfl) (.slice A keys.length cap)) (fun b o e e2 => by have := hAb b o e; omega))
  go_wp2_with (fail)
  generalize ((((((((((w8.setCell ⟨w.heap.size, 0, none⟩ (.int .i64 kind)).setCell ⟨w.heap.size, 1, none⟩ (.int .i64 queue)).setCell ⟨w.heap.size, 2, none⟩ (.int .i64 due)).setCell ⟨w.heap.size, 3, none⟩ (.int .i64 retry)).setCell ⟨w.heap.size, 4, none⟩ (.int .i64 ref)).setCell ⟨w.heap.size, 5, none⟩ (.int .i64 born)).setCell ⟨w.heap.size, 6, none⟩ (.string (S topic))).setCell ⟨w.heap.size, 7, none⟩ (.string (S tag))).setCell ⟨w.heap.size, 8, none⟩ (.string (S body))).setCell ⟨w.heap.size, 9, none⟩ (.slice A keys.length cap)) = w9 at *
  have y0 := HRB9.out.cell 0
  have y1 := HRB9.out.cell 1
  have y2 := HRB9.out.cell 2
  have y3 := HRB9.out.cell 3
  have y4 := HRB9.out.cell 4
  have y5 := HRB9.out.cell 5
  have y6 := HRB9.out.cell 6
  have y7 := HRB9.out.cell 7
  have y8 := HRB9.out.cell 8
  have y9 := HRB9.out.cell 9
  exact bodyPost_ret (v := .tuple #[.agg #[.int .i64 kind, .int .i64 queue, .int .i64 due, .int .i64 retry, .int .i64 ref, .int .i64 born, .string (S topic), .string (S tag), .string (S body), .slice A keys.length cap], .int .i64 N, .int .i64 0]) (by simp [results, Tryz.results32, go_sem, y0, y1, y2, y3, y4, y5, y6, y7, y8, y9]) rfl ⟨A, cap, rfl, HV9.out, HB9.out, fun b o e => by have := hAb b o e; omega⟩

end Go.Proofs.YtnacjogdndggeaaGreatDoor
end

section
namespace Go.Proofs.YtnacjogdndggeaaGreatDoor
open Go.Shelf Go.RowKit Go.Lib
set_option maxRecDepth 100000
set_option maxHeartbeats 2000000

theorem TapeAt.lookup {χ : Col} {c cr t d : Nat} {T : TapeM} {w : World} {r g m : Nat} {iv : Value} (h : TapeAt χ c cr w t d T r g m iv) (id : Int) (h0 : -9223372036854775808 ≤ id) (h1 : id ≤ 9223372036854775807) {n : Nat} (hg : aget T.sizes id = some n) :
    (Instr.lookup 85 (.map (some m)) (.int .i64 id) false).run Tryz.prog w = .ok (.int .i64 (n : Int)) w := by
  obtain ⟨v, ps, hrun, hv⟩ := h.map.lookup pend_keyed Tryz.underlying85 (Tryz.zeroValue3 w) (zd := .lit (.int .i64 0)) (zp := []) (plainElem_int Tryz.underlying3 (by decide)) (Go.Maps.keyOf_int_mk Tryz.underlying3 (i64_wf h0 h1))
  rw [hrun]
  have ha := amap_atKey (f := fun _ (n : Nat) => (.lit (.int .i64 (n : Int)) : DataW Unit)) kfI id (.lit (.int .i64 0)) T.sizes
  rw [show amap (Lit.int .i64) (fun _ (n : Nat) => (.lit (.int .i64 (n : Int)) : DataW Unit)) T.sizes = sizesD T.sizes from rfl] at ha
  rw [ha, hg] at hv
  obtain ⟨a, rfl, hy, _⟩ := plainElem_int_inv Tryz.underlying3 hv
  have h2 := congrArg Prod.fst hy
  dsimp only at h2
  injection h2 with h2
  injection h2 with _ h2
  rw [h2]

theorem Read_tape {χ : Col} {c cr cd t d id : Nat} {T : TapeM} {D : Dsk} {w : World} {m : Rec} (h : IsTape χ c cr w t d T) (hd : IsDk χ cd w d D) (hok : T.Ok) (hon : T.row.On D) (ht : Tab χ w) (hmem : (id, m) ∈ T.recs) (hk : m.kind = 1 ∨ m.kind = 2) :
    Calls Tryz.prog 15 #[.pointer (some ⟨t, 0, none⟩), .int .i64 (id : Int)] w fun e w' => ∃ A c, e = .returned (.tuple #[.agg (recV m A c), .int .i64 0]) ∧ RSa w' A m.keys ∧ Below w.heap.size w w' := by
  obtain ⟨hm, h0, hlf, hby⟩ := hok.recs _ hmem
  simp only at hm h0 hlf hby
  have hsz := TapeM.size_of T hok hmem
  have hpl := putF_len m hm h0
  have hlong : TapeM.long (id, m) = (putF m).length := rfl
  rw [hlong] at hlf hby
  obtain ⟨hb1, hb2⟩ := RowM.left_fin T.row hlf (by omega)
  have hfin := hok.row.fin
  obtain ⟨r, g, mp, iv, h⟩ := h
  have HLK := Lib.hid (fun (W : World) (h : TapeAt χ c cr W t d T r g mp iv) => h.lookup (id : Int) (by omega) (by omega) hsz)
  have HBG := Lib.hid (fun (W : World) (h : IsRow χ cr W r d T.row) => Begin_any h hok.row.zero)
  have HRD := Lib.hid (fun (W : World) (h : IsRow χ cr W r d T.row) (hd : IsDk χ cd W d D) (ht : Tab χ W) => Read_row h hd hon ht id (putF m).length hb1 (by omega) hlf)
  rw [hby] at HRD
  have HGT := Lib.hid (fun (W : World) (hT : IsTab g W) => Get_good g m [] W hT hm hk (by simp))
  rw [List.append_nil] at HGT
  have hB := (Below.refl w.heap.size w).alloc (Nat.le_refl _) (.cells #[.int .i64 0, .int .i64 0, .int .i64 0, .int .i64 0, .int .i64 0, .int .i64 0, .string ⟨#[]⟩, .string ⟨#[]⟩, .string ⟨#[]⟩, .slice none 0 0] 56)
  have HB1 := Lib.hid hB
  have HRB1 := Lib.hid (Blk.new w #[.int .i64 0, .int .i64 0, .int .i64 0, .int .i64 0, .int .i64 0, .int .i64 0, .string ⟨#[]⟩, .string ⟨#[]⟩, .string ⟨#[]⟩, .slice none 0 0] 56)
  have HT1 := Lib.hid (h.below hB)
  have HD1 := Lib.hid (hd.below hB)
  have HTB1 := Lib.hid (ht.below hB)
  clear h hd ht hB hsz hby hlong hon hok hlf hmem hm
  generalize putF m = q at *
  simp only [recV] at *
  go_enter Tryz.func15, Tryz.ntmps15
  go_upto_region 1 with (fail)
  generalize w.alloc (.cells #[.int .i64 0, .int .i64 0, .int .i64 0, .int .i64 0, .int .i64 0, .int .i64 0, .string ⟨#[]⟩, .string ⟨#[]⟩, .string ⟨#[]⟩, .slice none 0 0] 56) = w1 at *
  have e0 := HT1.out.own.1.cell 0
  have i0 : (0 : Int) ≤ (id : Int) := by omega
  have i1 : ¬ (id : Int) < (T.row.begin : Int) := by omega
  have i2 : ¬ id < T.row.begin := by omega
  have i3 : ((q.length : Int) == 0) = false := beq_eq_false_iff_ne.2 (by omega)
  have i4 : ¬ (q.length : Int) = 0 := by omega
  go_wp2_with (fail)
  refine (HBG.out w1 HT1.out.row).mono ?_
  rintro e w' ⟨rfl, rfl⟩
  have e3 := HT1.out.own.1.cell 3
  have hl := HLK.out _ HT1.out
  go_wp2_with (fail)
  have hT2 := HT1.out.below (below_drewN w1 1)
  have e4 : _ ∧ _ ∧ _ := And.intro (hT2.own.1.cell 0) (And.intro (hT2.own.1.cell 3) (HLK.out _ hT2))
  have HT2 := Lib.hid hT2
  have HD2 := Lib.hid (HD1.out.below (below_drewN w1 1))
  have HTB2 := Lib.hid (HTB1.out.below (below_drewN w1 1))
  have HB2 := Lib.hid (HB1.out.drew)
  have HRB2 := Lib.hid (HRB1.out.drew)
  refine wp_region_held_drew (S := fun w' => w'.cell? ⟨t, 0, none⟩ = some (.pointer (some ⟨r, 0, none⟩)) ∧ w'.cell? ⟨t, 3, none⟩ = some (.map (some mp)) ∧ (Instr.lookup 85 (.map (some mp)) (.int .i64 (id : Int)) false).run Tryz.prog w' = .ok (.int .i64 (q.length : Int)) w') (by kernel_rfl) e4 (fun hHeld => ?_)
  rw [show w1.drewN 1 = w1.drew from rfl] at *
  generalize w1.drew = w2 at *
  clear e0 e3 hl e4 hT2 HT1 HD1 HTB1 HB1 HRB1
  refine wpAnyH_take (i := 0) (oi := ⟨some 37, _, _, _, _, _⟩) (v := ?_) rfl (by kernel_rfl) (by kernel_rfl) (by kernel_rfl) (fun _ _ _ h => h) (Or.inl ⟨by rfl, (by intro w hSw; (try dsimp only at hSw); go_simp; try with_reducible rfl)⟩) hHeld ?_
  try simp only [Act.put, List.setIfInBounds_toArray, List.set_cons_zero, List.set_cons_succ]
  refine wpAnyH_take (i := 4) (oi := ⟨some 41, _, _, _, _, _⟩) (v := ?_) rfl (by kernel_rfl) (by kernel_rfl) (by kernel_rfl) (fun _ _ _ h => h) (Or.inl ⟨by rfl, (by intro w hSw; (try dsimp only at hSw); go_simp; try with_reducible rfl)⟩) hHeld ?_
  try simp only [Act.put, List.setIfInBounds_toArray, List.set_cons_zero, List.set_cons_succ]
  refine wpAnyH_take (i := 5) (oi := ⟨some 42, _, _, _, _, _⟩) (v := ?_) rfl (by kernel_rfl) (by kernel_rfl) (by kernel_rfl) (fun _ _ _ h => h) (Or.inl ⟨by rfl, (by intro w hSw; (try dsimp only at hSw); go_simp; try with_reducible rfl)⟩) hHeld ?_
  try simp only [Act.put, List.setIfInBounds_toArray, List.set_cons_zero, List.set_cons_succ]
  refine wpAnyH_take (i := 9) (oi := ⟨some 46, _, _, _, _, _⟩) (v := ?_) rfl (by kernel_rfl) (by kernel_rfl) (by kernel_rfl) (fun _ _ _ h => h) (Or.inl ⟨by rfl, (by intro w hSw; (try dsimp only at hSw); go_simp; try with_reducible rfl)⟩) hHeld ?_
  try simp only [Act.put, List.setIfInBounds_toArray, List.set_cons_zero, List.set_cons_succ]
  refine wpAnyH_take (i := 1) (oi := ⟨some 38, _, _, _, _, _⟩) (v := ?_) rfl (by kernel_rfl) (by kernel_rfl) (by kernel_rfl) (fun _ _ _ h => h) (Or.inl ⟨by rfl, (by intro w hSw; (try dsimp only at hSw); go_simp; try with_reducible rfl)⟩) hHeld ?_
  try simp only [Act.put, List.setIfInBounds_toArray, List.set_cons_zero, List.set_cons_succ]
  refine wpAnyH_take (i := 6) (oi := ⟨some 43, _, _, _, _, _⟩) (v := ?_) rfl (by kernel_rfl) (by kernel_rfl) (by kernel_rfl) (fun _ _ _ h => h) (Or.inl ⟨by rfl, (by intro w hSw; (try dsimp only at hSw); go_simp; try with_reducible rfl)⟩) hHeld ?_
  try simp only [Act.put, List.setIfInBounds_toArray, List.set_cons_zero, List.set_cons_succ]
  refine wpAnyH_take (i := 2) (oi := ⟨some 39, _, _, _, _, _⟩) (v := ?_) rfl (by kernel_rfl) (by kernel_rfl) (by kernel_rfl) (fun _ _ _ h => h) (Or.inl ⟨by rfl, (by intro w hSw; (try dsimp only at hSw); go_simp; try with_reducible rfl)⟩) hHeld ?_
  try simp only [Act.put, List.setIfInBounds_toArray, List.set_cons_zero, List.set_cons_succ]
  refine wpAnyH_take (i := 7) (oi := ⟨some 44, _, _, _, _, _⟩) (v := ?_) rfl (by kernel_rfl) (by kernel_rfl) (by kernel_rfl) (fun _ _ _ h => h) (Or.inl ⟨by rfl, (by intro w hSw; (try dsimp only at hSw); go_simp; try with_reducible rfl)⟩) hHeld ?_
  try simp only [Act.put, List.setIfInBounds_toArray, List.set_cons_zero, List.set_cons_succ]
  refine wpAnyH_take (i := 3) (oi := ⟨some 40, _, _, _, _, _⟩) (v := ?_) rfl (by kernel_rfl) (by kernel_rfl) (by kernel_rfl) (fun _ _ _ h => h) (Or.inl ⟨by rfl, (by intro w hSw; (try dsimp only at hSw); go_simp; try with_reducible rfl)⟩) hHeld ?_
  try simp only [Act.put, List.setIfInBounds_toArray, List.set_cons_zero, List.set_cons_succ]
  refine wpAnyH_take (i := 8) (oi := ⟨some 45, _, _, _, _, _⟩) (v := ?_) rfl (by kernel_rfl) (by kernel_rfl) (by kernel_rfl) (fun _ _ _ h => h) (Or.inl ⟨by rfl, (by intro w hSw; (try dsimp only at hSw); go_simp; try with_reducible rfl)⟩) hHeld ?_
  try simp only [Act.put, List.setIfInBounds_toArray, List.set_cons_zero, List.set_cons_succ]
  refine wpAnyH_take (i := 10) (oi := ⟨some 47, _, _, _, _, _⟩) (v := ?_) rfl (by kernel_rfl) (by kernel_rfl) (by kernel_rfl) (fun _ _ _ h => h) (Or.inl ⟨by rfl, (by intro w hSw; (try dsimp only at hSw); go_simp; try with_reducible rfl)⟩) hHeld ?_
  try simp only [Act.put, List.setIfInBounds_toArray, List.set_cons_zero, List.set_cons_succ]
  refine wpAnyH_ready (rs := [11]) (by kernel_rfl) (by simp) ?_
  refine AllReadyH.cons (o := ⟨some 48, _, _, _, _, _⟩) rfl (fun K hK => ?_) AllReadyH.nil
  go_simp
  refine (HRD.out w2 HT2.out.row HD2.out HTB2.out).mono ?_
  rintro e w3 ⟨rfl, hb⟩
  have hT3 := HT2.out.below hb
  have HT3 := Lib.hid hT3
  have HB3 := Lib.hid (HB2.out.trans (hb.mono HB2.out.size))
  have HRB3 := Lib.hid (HRB2.out.below hb)
  have hS2 := And.intro (hT3.own.1.cell 0) (And.intro (hT3.own.1.cell 3) (HLK.out _ hT3))
  refine hK.out _ _ hS2 (fun hHeld => ?_)
  clear hK K
  try simp only [Act.put, List.setIfInBounds_toArray, List.set_cons_zero, List.set_cons_succ]
  refine wpAnyH_take (i := 12) (oi := ⟨some 36, _, _, _, _, _⟩) (v := ?_) rfl (by kernel_rfl) (by kernel_rfl) (by kernel_rfl) (fun _ _ _ h => h) (Or.inl ⟨by rfl, (by intro w hSw; (try dsimp only at hSw); go_simp; try with_reducible rfl)⟩) hHeld ?_
  try simp only [Act.put, List.setIfInBounds_toArray, List.set_cons_zero, List.set_cons_succ]
  refine wpAnyH_take (i := 13) (oi := ⟨some 49, _, _, _, _, _⟩) (v := ?_) rfl (by kernel_rfl) (by kernel_rfl) (by kernel_rfl) (fun _ _ _ h => h) (Or.inl ⟨by rfl, (by intro w hSw; (try dsimp only at hSw); go_simp; try with_reducible rfl)⟩) hHeld ?_
  try simp only [Act.put, List.setIfInBounds_toArray, List.set_cons_zero, List.set_cons_succ]
  refine wpAnyH_take (i := 14) (oi := ⟨some 50, _, _, _, _, _⟩) (v := ?_) rfl (by kernel_rfl) (by kernel_rfl) (by kernel_rfl) (fun _ _ _ h => h) (Or.inl ⟨by rfl, (by intro w hSw; (try dsimp only at hSw); go_simp; try with_reducible rfl)⟩) hHeld ?_
  try simp only [Act.put, List.setIfInBounds_toArray, List.set_cons_zero, List.set_cons_succ]
  refine wpAnyH_take (i := 15) (oi := ⟨some 6, _, _, _, _, _⟩) (v := ?_) rfl (by kernel_rfl) (by kernel_rfl) (by kernel_rfl) (fun _ _ _ h => h) (Or.inl ⟨by rfl, (by intro w hSw; (try dsimp only at hSw); go_simp; try with_reducible rfl)⟩) hHeld ?_
  try simp only [Act.put, List.setIfInBounds_toArray, List.set_cons_zero, List.set_cons_succ]
  refine wpAnyH_take (i := 16) (oi := ⟨some 7, _, _, _, _, _⟩) (v := ?_) rfl (by kernel_rfl) (by kernel_rfl) (by kernel_rfl) (fun _ _ _ h => h) (Or.inl ⟨by rfl, (by intro w hSw; (try dsimp only at hSw); go_simp; try with_reducible rfl)⟩) hHeld ?_
  try simp only [Act.put, List.setIfInBounds_toArray, List.set_cons_zero, List.set_cons_succ]
  refine wpAnyH_done (by kernel_rfl) ?_ _
  clear hHeld hS2 hT3 hb HT2 HD2 HTB2 HB2 HRB2
  have e1 := HT3.out.own.1.cell 1
  have hGt := HGT.out w3 HT3.out.tab
  go_wp2_with (fail)
  refine hGt.mono ?_
  rintro e w7 ⟨A, cap, rfl, hv, hb, hAb⟩
  have hba := (Below.refl w7.heap.size w7).alloc (Nat.le_refl _) (.cells #[.int .i64 m.kind, .int .i64 m.queue, .int .i64 m.due, .int .i64 m.retry, .int .i64 m.ref, .int .i64 m.born, .string (S m.topic), .string (S m.tag), .string (S m.body), .slice A m.keys.length cap] 56)
  have hbb := hb.trans (hba.mono hb.size)
  have HRB8 := Lib.hid (HRB3.out.below hbb)
  have HB8 := Lib.hid (HB3.out.trans (hbb.mono HB3.out.size))
  have HV8 := Lib.hid (hv.below hba)
  have hw6 : w.heap.size < w3.heap.size := HRB3.out.lt
  have HM8 := Lib.hid (Blk.new w7 #[.int .i64 m.kind, .int .i64 m.queue, .int .i64 m.due, .int .i64 m.retry, .int .i64 m.ref, .int .i64 m.born, .string (S m.topic), .string (S m.tag), .string (S m.body), .slice A m.keys.length cap] 56)
  clear hb hba hbb hv hGt HRB3 HB3 HT3 e1
  go_upto_region 11 with (fail)
  generalize w7.alloc (.cells #[.int .i64 m.kind, .int .i64 m.queue, .int .i64 m.due, .int .i64 m.retry, .int .i64 m.ref, .int .i64 m.born, .string (S m.topic), .string (S m.tag), .string (S m.body), .slice A m.keys.length cap] 56) = w8 at *
  have HM := HM8.out
  have c0 := HRB8.out.cell 0
  have f0 := HRB8.out.frozen 0
  have m0 := HM.cell 0
  have c1 := HRB8.out.cell 1
  have f1 := HRB8.out.frozen 1
  have m1 := HM.cell 1
  have c2 := HRB8.out.cell 2
  have f2 := HRB8.out.frozen 2
  have m2 := HM.cell 2
  have c3 := HRB8.out.cell 3
  have f3 := HRB8.out.frozen 3
  have m3 := HM.cell 3
  have c4 := HRB8.out.cell 4
  have f4 := HRB8.out.frozen 4
  have m4 := HM.cell 4
  have c5 := HRB8.out.cell 5
  have f5 := HRB8.out.frozen 5
  have m5 := HM.cell 5
  have c6 := HRB8.out.cell 6
  have f6 := HRB8.out.frozen 6
  have m6 := HM.cell 6
  have c7 := HRB8.out.cell 7
  have f7 := HRB8.out.frozen 7
  have m7 := HM.cell 7
  have c8 := HRB8.out.cell 8
  have f8 := HRB8.out.frozen 8
  have m8 := HM.cell 8
  have c9 := HRB8.out.cell 9
  have f9 := HRB8.out.frozen 9
  have m9 := HM.cell 9
  clear HM
  have hx := ((((((((((HRB8.out.set 0 (.int .i64 m.kind)).set 1 (.int .i64 m.queue)).set 2 (.int .i64 m.due)).set 3 (.int .i64 m.retry)).set 4 (.int .i64 m.ref)).set 5 (.int .i64 m.born)).set 6 (.string (S m.topic))).set 7 (.string (S m.tag))).set 8 (.string (S m.body))).set 9 (.slice A m.keys.length cap))
  simp only [List.setIfInBounds_toArray, List.set_cons_zero, List.set_cons_succ] at hx
  have HRB9 := Lib.hid hx
  clear hx
  have HB9 := Lib.hid ((((((((((HB8.out.setCell (p := ⟨w.heap.size, 0, none⟩) (Nat.le_refl _) (.int .i64 m.kind)).setCell (p := ⟨w.heap.size, 1, none⟩) (Nat.le_refl _) (.int .i64 m.queue)).setCell (p := ⟨w.heap.size, 2, none⟩) (Nat.le_refl _) (.int .i64 m.due)).setCell (p := ⟨w.heap.size, 3, none⟩) (Nat.le_refl _) (.int .i64 m.retry)).setCell (p := ⟨w.heap.size, 4, none⟩) (Nat.le_refl _) (.int .i64 m.ref)).setCell (p := ⟨w.heap.size, 5, none⟩) (Nat.le_refl _) (.int .i64 m.born)).setCell (p := ⟨w.heap.size, 6, none⟩) (Nat.le_refl _) (.string (S m.topic))).setCell (p := ⟨w.heap.size, 7, none⟩) (Nat.le_refl _) (.string (S m.tag))).setCell (p := ⟨w.heap.size, 8, none⟩) (Nat.le_refl _) (.string (S m.body))).setCell (p := ⟨w.heap.size, 9, none⟩) (Nat.le_refl _) (.slice A m.keys.length cap))
  have HV9 := Lib.hid (HV8.out.gr (((((((((((Gr.refl (fun k => k = w.heap.size) w8).set (p := ⟨w.heap.size, 0, none⟩) (.inl rfl) (.int .i64 m.kind)).set (p := ⟨w.heap.size, 1, none⟩) (.inl rfl) (.int .i64 m.queue)).set (p := ⟨w.heap.size, 2, none⟩) (.inl rfl) (.int .i64 m.due)).set (p := ⟨w.heap.size, 3, none⟩) (.inl rfl) (.int .i64 m.retry)).set (p := ⟨w.heap.size, 4, none⟩) (.inl rfl) (.int .i64 m.ref)).set (p := ⟨w.heap.size, 5, none⟩) (.inl rfl) (.int .i64 m.born)).set (p := ⟨w.heap.size, 6, none⟩) (.inl rfl) (.string (S m.topic))).set (p := ⟨w.heap.size, 7, none⟩) (.inl rfl) (.string (S m.tag))).set (p := ⟨w.heap.size, 8, none⟩) (.inl rfl) (.string (S m.body))).set (p := ⟨w.heap.size, 9, none⟩) (.inl rfl) (.slice A m.keys.length cap)) (fun b o e e2 => by have := hAb b o e; omega))
  go_wp2_with (fail)
  generalize ((((((((((w8.setCell ⟨w.heap.size, 0, none⟩ (.int .i64 m.kind)).setCell ⟨w.heap.size, 1, none⟩ (.int .i64 m.queue)).setCell ⟨w.heap.size, 2, none⟩ (.int .i64 m.due)).setCell ⟨w.heap.size, 3, none⟩ (.int .i64 m.retry)).setCell ⟨w.heap.size, 4, none⟩ (.int .i64 m.ref)).setCell ⟨w.heap.size, 5, none⟩ (.int .i64 m.born)).setCell ⟨w.heap.size, 6, none⟩ (.string (S m.topic))).setCell ⟨w.heap.size, 7, none⟩ (.string (S m.tag))).setCell ⟨w.heap.size, 8, none⟩ (.string (S m.body))).setCell ⟨w.heap.size, 9, none⟩ (.slice A m.keys.length cap)) = w9 at *
  have y0 := HRB9.out.cell 0
  have y1 := HRB9.out.cell 1
  have y2 := HRB9.out.cell 2
  have y3 := HRB9.out.cell 3
  have y4 := HRB9.out.cell 4
  have y5 := HRB9.out.cell 5
  have y6 := HRB9.out.cell 6
  have y7 := HRB9.out.cell 7
  have y8 := HRB9.out.cell 8
  have y9 := HRB9.out.cell 9
  exact bodyPost_ret (v := .tuple #[.agg #[.int .i64 m.kind, .int .i64 m.queue, .int .i64 m.due, .int .i64 m.retry, .int .i64 m.ref, .int .i64 m.born, .string (S m.topic), .string (S m.tag), .string (S m.body), .slice A m.keys.length cap], .int .i64 0]) (by simp [results, Tryz.results15, go_sem, y0, y1, y2, y3, y4, y5, y6, y7, y8, y9]) rfl ⟨A, cap, rfl, HV9.out, HB9.out⟩

end Go.Proofs.YtnacjogdndggeaaGreatDoor
end
