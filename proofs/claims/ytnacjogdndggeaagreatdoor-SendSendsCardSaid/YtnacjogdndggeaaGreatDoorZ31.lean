/- Layer 21 (store): Open over two empty disks. Layer 21 (store): Put, Now. Layer 13 (topic): Queues, Check, All. Layer 22 (send): may something be sent?. -/
import Derived.Test.YtnacjogdndggeaaGreatDoorZ30
import Derived.Test.YtnacjogdndggeaaGreatDoorZ11
import Derived.Test.YtnacjogdndggeaaGreatDoorZ25
import Derived.Test.YtnacjogdndggeaaGreatDoorZ26
section
namespace Go.Proofs.YtnacjogdndggeaaGreatDoor
open Go.Shelf Go.RowKit Go.Lib
set_option maxRecDepth 100000
set_option maxHeartbeats 1000000

/-- What of a store a law looks at. -/
structure Core (χ : Col) (w : World) (s : Nat) (a : SAddr) (now : Int) (T : TapeM) (L : Tops) (Pd : Pends) (D : Dsk) : Prop where
  own : CBlk χ 7 w s (storeV a now) 51
  dk : IsDk χ 1 w a.mn D
  tp : IsTape χ 3 4 w a.tp a.mn T
  tb : IsTops χ 5 w a.tb a.mn L
  pd : IsPend χ 11 w a.pd Pd
  tab : Tab χ w
theorem Core.stp {C : Nat → Prop} {χ χ' : Col} {w w' : World} {s : Nat} {a : SAddr} {now : Int} {T : TapeM} {L : Tops} {Pd : Pends} {D : Dsk} (h : Core χ w s a now T L Pd D) (st : Stp C χ w χ' w') (hC : ∀ k, k ∈ [0, 1, 3, 4, 5, 7, 11] → ¬ C k) : Core χ' w' s a now T L Pd D where
  own := h.own.stp st (hC _ (by decide))
  dk := h.dk.stp st (hC _ (by decide))
  tp := h.tp.stp st (hC _ (by decide)) (hC _ (by decide))
  tb := h.tb.stp st (hC _ (by decide))
  pd := h.pd.stp st (hC _ (by decide))
  tab := h.tab.stp st (hC _ (by decide))
theorem Core.below {χ : Col} {w w' : World} {s : Nat} {a : SAddr} {now : Int} {T : TapeM} {L : Tops} {Pd : Pends} {D : Dsk} (h : Core χ w s a now T L Pd D) (hb : Below w.heap.size w w') : Core χ w' s a now T L Pd D :=
  h.stp (C := fun _ => False) (Stp.of_below hb) (fun _ _ h => h)

theorem disk_info : ∃ j, Tryz.prog.info? 75 = some j ∧ j.size ≠ 0 := by
  have : (Tryz.prog.info? 75).map (·.size) = some 5 := by kernel_rfl
  cases h : Tryz.prog.info? 75 with
  | none => rw [h] at this; cases this
  | some j =>
    rw [h] at this
    injection this with this
    exact ⟨j, rfl, fun e => by have h2 : j.size = 5 := this; omega⟩

/-- Two disks' pointers compared. -/
theorem eql_disks {W : World} {χ : Col} {c d m n : Nat} {D E : Dsk} (ha : IsDk χ c W m D) (hb : IsDk χ d W n E) (hne : c ≠ d) :
    (binOp .eql 25 (.pointer (some ⟨m, 0, none⟩)) (.pointer (some ⟨n, 0, none⟩))).run Tryz.prog W = .ok (.bool false) W := by
  obtain ⟨j, hj, hs⟩ := disk_info
  obtain ⟨_, _, _, ha⟩ := ha
  obtain ⟨_, _, _, hb⟩ := hb
  have e : m ≠ n := fun e => hne (ha.own.2.symm.trans ((congrArg χ e).trans hb.own.2))
  exact run_eql_ptr_other (P := Tryz.prog) W (tp := 25) (te := 75) (a := ⟨m, 0, none⟩) (b := ⟨n, 0, none⟩) Tryz.underlying25 hj hs (fun h => e (by injection h)) ha.own.1 hb.own.1

theorem Open_new {χ : Col} {mn ca : Nat} {Dm Dc : Dsk} {w : World} {now : Int} (hm : IsDk χ 1 w mn Dm) (hc : IsDk χ 2 w ca Dc) (ht : Tab χ w) (hfm : Dm.files = []) (hWm : Dm.waits = []) (hfc : Dc.files = []) (hWc : Dc.waits = []) (hroom : 1000 ≤ Dc.room) (h0 : 0 ≤ now) (h1 : now ≤ 1099511626776) :
    Calls Tryz.prog 22 #[ptr mn, ptr ca, .int .i64 now] w fun e w' => ∃ s a χ', e = .returned (.tuple #[ptr s, .int .i64 0]) ∧ Stp (· ≠ 0) χ w χ' w' ∧ Core χ' w' s a now tape0 [] [] Dm ∧ a.mn = mn := by
  have hq := eql_disks hm hc (by decide)
  have hP := pendNew_any (χ := χ) 11 w
  have HM := Lib.hid hm
  have HC := Lib.hid hc
  have HT := Lib.hid ht
  have hnm : ∀ h, Dm.names h = [] := fun h => by
    unfold Dsk.names
    rw [hfm]
    rfl
  have hfl : ∀ n, Dm.file n = none := fun n => by
    unfold Dsk.file
    rw [hfm]
    rfl
  have i1 : ¬ now < 0 := by omega
  have i2 : ¬ (1099511626776 : Int) < now := by omega
  clear hm hc ht
  unfold ptr at *
  go_enter Tryz.func22, Tryz.ntmps22
  go_wp2_with (fail)
  refine hP.mono ?_
  rintro e w1 ⟨pd, χ1, rfl, s1, hpd⟩
  have HM1 := Lib.hid (HM.out.stp s1 (fun h => h))
  have HC1 := Lib.hid (HC.out.stp s1 (fun h => h))
  have HT1 := Lib.hid (HT.out.stp s1 (fun h => h))
  have HP1 := Lib.hid hpd
  have HS1 := Lib.hid s1
  clear hP s1 hpd HM HC HT hq
  go_wp2_with (fail)
  have hB2 := (Below.refl w1.heap.size w1).alloc (Nat.le_refl _) (.cells #[.pointer none, .pointer none, .pointer none, .pointer none, .pointer none, .pointer none, .pointer (some ⟨pd, 0, none⟩), .pointer none, .pointer none, .pointer none, .pointer (some ⟨mn, 0, none⟩), .int .i64 now] 51)
  have hB3 := hB2.alloc (by simp) (.cells #[.func (.func 54) #[] #[], .func (.func 55) #[] #[]] 116)
  have hbs := (Blk.new w1 #[.pointer none, .pointer none, .pointer none, .pointer none, .pointer none, .pointer none, .pointer (some ⟨pd, 0, none⟩), .pointer none, .pointer none, .pointer none, .pointer (some ⟨mn, 0, none⟩), .int .i64 now] 51).alloc (.cells #[.func (.func 54) #[] #[], .func (.func 55) #[] #[]] 116)
  have hbl := Blk.new (w1.alloc (.cells #[.pointer none, .pointer none, .pointer none, .pointer none, .pointer none, .pointer none, .pointer (some ⟨pd, 0, none⟩), .pointer none, .pointer none, .pointer none, .pointer (some ⟨mn, 0, none⟩), .int .i64 now] 51)) #[.func (.func 54) #[] #[], .func (.func 55) #[] #[]] 116
  rw [show (w1.alloc (.cells #[.pointer none, .pointer none, .pointer none, .pointer none, .pointer none, .pointer none, .pointer (some ⟨pd, 0, none⟩), .pointer none, .pointer none, .pointer none, .pointer (some ⟨mn, 0, none⟩), .int .i64 now] 51)).heap.size = w1.heap.size + 1 by simp] at hbl
  have HS2 := Lib.hid (HS1.out.trans (((Stp.of_below (C := fun _ => False) (χ := χ1) hB3).paint (Nat.le_refl _) 7).paint (show w1.heap.size ≤ w1.heap.size + 1 by omega) 0))
  have s2 := ((Stp.of_below (C := fun _ => False) (χ := χ1) hB3).paint (Nat.le_refl _) 7).paint (show w1.heap.size ≤ w1.heap.size + 1 by omega) 0
  have HO2 := Lib.hid (show CBlk (paint (paint χ1 w1.heap.size 7) (w1.heap.size + 1) 0) 7 _ _ _ _ from ⟨hbs, by rw [paint_old (by omega), paint_new (Nat.le_refl _)]⟩)
  have HL2 := Lib.hid (show CBlk (paint (paint χ1 w1.heap.size 7) (w1.heap.size + 1) 0) 0 _ _ _ _ from ⟨hbl, paint_new (Nat.le_refl _)⟩)
  have HM2 := Lib.hid (HM1.out.stp s2 (fun h => h))
  have HC2 := Lib.hid (HC1.out.stp s2 (fun h => h))
  have HT2 := Lib.hid (HT1.out.stp s2 (fun h => h))
  have HP2 := Lib.hid (HP1.out.stp s2 (fun h => h))
  clear hB2 hB3 hbs hbl s2 HS1 HM1 HC1 HT1 HP1
  generalize (w1.alloc (.cells #[.pointer none, .pointer none, .pointer none, .pointer none, .pointer none, .pointer none, .pointer (some ⟨pd, 0, none⟩), .pointer none, .pointer none, .pointer none, .pointer (some ⟨mn, 0, none⟩), .int .i64 now] 51)).alloc (.cells #[.func (.func 54) #[] #[], .func (.func 55) #[] #[]] 116) = w3 at *
  generalize paint (paint χ1 w1.heap.size 7) (w1.heap.size + 1) 0 = χ2 at *
  generalize w1.heap.size = sb at *
  have hLa := lasting_none (s := sb) (mn := mn) (pd := pd) (now := now) HO2.out HM2.out HT2.out (hnm _) (hfl _) (hfl _) (by rw [hfm]; simp) (by rw [hWm]; simp)
  unfold ptr at hLa
  have l0 := HL2.out.1.cell 0
  refine wp_loop_rounds 3 ?_
  rw [rounds_succ]
  go_wp2_with (fail)
  refine hLa.mono ?_
  rintro e w4 ⟨rfl, tp, tb, gr, χ4, s4, ho4, hm4, ht4, hb4, hg4⟩
  have HS4 := Lib.hid ((HS2.out.mono (C' := (· ≠ 0)) fun k hk => hk.elim).trans (s4.mono fun k hk => by rcases hk with rfl | rfl | rfl <;> decide))
  have HL4 := Lib.hid (HL2.out.stp s4 (by decide))
  have HC4 := Lib.hid (HC2.out.stp s4 (by decide))
  have HT4 := Lib.hid (HT2.out.stp s4 (by decide))
  have HP4 := Lib.hid (HP2.out.stp s4 (by decide))
  have HO4 := Lib.hid ho4
  have HM4 := Lib.hid hm4
  have HTP4 := Lib.hid ht4
  have HTB4 := Lib.hid hb4
  clear hLa l0 s4 ho4 hm4 ht4 hb4 hg4 HS2 HL2 HC2 HT2 HP2 HO2 HM2
  go_wp2_with (fail)
  rw [rounds_succ]
  have l1 := HL4.out.1.cell 1
  have hBa := based_none (s := sb) (d := mn) HO4.out rfl HM4.out (hfl _)
  unfold ptr at hBa
  go_wp2_with (fail)
  refine hBa.mono ?_
  rintro e w5 ⟨rfl, hb⟩
  have s5 := Stp.of_below (C := fun _ => False) (χ := χ4) hb
  have HS5 := Lib.hid (HS4.out.trans (Stp.of_below hb))
  have HC5 := Lib.hid (HC4.out.stp s5 (fun h => h))
  have HT5 := Lib.hid (HT4.out.stp s5 (fun h => h))
  have HP5 := Lib.hid (HP4.out.stp s5 (fun h => h))
  have HO5 := Lib.hid (HO4.out.stp s5 (fun h => h))
  have HM5 := Lib.hid (HM4.out.stp s5 (fun h => h))
  have HTP5 := Lib.hid (HTP4.out.stp s5 (fun h => h) (fun h => h))
  have HTB5 := Lib.hid (HTB4.out.stp s5 (fun h => h))
  clear hBa l1 s5 hb HS4 HL4 HC4 HT4 HP4 HO4 HM4 HTP4 HTB4
  go_wp2_with (fail)
  rw [rounds_succ]
  have hDe := derived_none (s := sb) (ca := ca) (now := now) HO5.out HC5.out hfc (by rw [hWc]; simp) hroom h0 (by omega)
  unfold ptr at hDe
  go_wp2_with (fail)
  refine hDe.mono ?_
  rintro e w6 ⟨rfl, qs, ix, tm, χ6, s6, ho6, hc6, hq6, hx6, ht6⟩
  have HS6 := Lib.hid (HS5.out.trans (s6.mono fun k hk => by rcases hk with rfl | rfl <;> decide))
  have HT6 := Lib.hid (HT5.out.stp s6 (by decide))
  have HP6 := Lib.hid (HP5.out.stp s6 (by decide))
  have HM6 := Lib.hid (HM5.out.stp s6 (by decide))
  have HTP6 := Lib.hid (HTP5.out.stp s6 (by decide) (by decide))
  have HTB6 := Lib.hid (HTB5.out.stp s6 (by decide))
  have HO6 := Lib.hid ho6
  clear hDe s6 ho6 hc6 hq6 hx6 ht6 HS5 HC5 HT5 HP5 HO5 HM5 HTP5 HTB5
  have hRe := replay_none (s := sb) (mn := mn) (now := now) HO6.out HM6.out (hfl _) HTP6.out rfl (fun _ => rfl)
  unfold ptr at hRe
  go_wp2_with (fail)
  refine hRe.mono ?_
  rintro e w7 ⟨rfl, ds, en, dq, χ7, s7, ho7, _, _, _⟩
  have HS7 := Lib.hid (HS6.out.trans (s7.mono fun k hk => by rcases hk with rfl | rfl | rfl <;> decide))
  have hcore : Core χ7 w7 sb ⟨tp, qs, ix, tb, gr, tm, pd, ds, en, dq, mn⟩ now tape0 [] [] Dm := ⟨ho7, HM6.out.stp s7 (by decide), HTP6.out.stp s7 (by decide) (by decide), HTB6.out.stp s7 (by decide), HP6.out.stp s7 (by decide), HT6.out.stp s7 (by decide)⟩
  have HK := Lib.hid hcore
  clear hRe s7 ho7 hcore HS6 HT6 HP6 HO6 HM6 HTP6 HTB6
  go_wp2
  go_ret2
  exact ⟨sb, _, χ7, rfl, HS7.out, HK.out, rfl⟩

end Go.Proofs.YtnacjogdndggeaaGreatDoor
end

section
namespace Go.Proofs.YtnacjogdndggeaaGreatDoor
open Go.Shelf Go.RowKit Go.Lib
set_option maxRecDepth 100000
set_option maxHeartbeats 1000000

theorem Now_any {χ : Col} {w : World} {s : Nat} {a : SAddr} {now : Int} {T : TapeM} {L : Tops} {Pd : Pends} {D : Dsk} (h : Core χ w s a now T L Pd D) :
    Calls Tryz.prog 42 #[ptr s] w fun e w' => e = .returned (.int .i64 now) ∧ w = w' := by
  have c11 : w.cell? ⟨s, 11, none⟩ = some (.int .i64 now) := h.own.1.cell 11
  clear h
  unfold ptr
  go_enter Tryz.func42, Tryz.ntmps42
  go_wp2_with (fail)
  go_ret
  exact ⟨rfl, rfl⟩

/-- What is pending behind a record that is put. -/
def putP (Pd : Pends) (id : Nat) (m : Rec) : Pends := if m.kind = 2 then aput (Lit.int .i64) (id : Int) (1, m.due) Pd else Pd

theorem Note_any {χ : Col} {c p k id : Nat} {L : Pends} {w : World} {m : Rec} {A : Option Addr} (h : IsPend χ c w p L) (h1 : id ≤ 1000000000) (hk : m.kind = 1 ∨ m.kind = 2) (hn : m.kind = 2 → aget L (id : Int) = none) (hl : L.length ≤ 1000000) :
    Calls Tryz.prog 85 #[.pointer (some ⟨p, 0, none⟩), .int .i64 (id : Int), .agg (recV m A k)] w fun e w' => ∃ b, e = .returned (.bool b) ∧ ∃ χ', Stp (· = c) χ w χ' w' ∧ IsPend χ' c w' p (putP L id m) := by
  rcases hk with hk | hk
  · refine (Note_message (id : Int) (by omega) hk).mono ?_
    rintro e w' ⟨rfl, hb⟩
    refine ⟨_, rfl, χ, Stp.of_below hb, ?_⟩
    unfold putP
    rw [if_neg (by omega)]
    exact h.stp (C := fun _ => False) (Stp.of_below hb) (fun h => h)
  · refine (Note_scheduled h (id : Int) (by omega) (by omega) hk (hn hk) hl).mono ?_
    rintro e w' ⟨rfl, χ', hs, hp⟩
    refine ⟨_, rfl, χ', hs, ?_⟩
    unfold putP
    rw [if_pos hk]
    exact hp

theorem Put_store {χ : Col} {w : World} {s k : Nat} {a : SAddr} {now : Int} {T : TapeM} {L : Tops} {Pd : Pends} {D : Dsk} {m : Rec} {A : Option Addr} (hC : Core χ w s a now T L Pd D) (hG : T.Good D) (hr : RSa w A m.keys) (hm : rightF m = true) (hk : m.kind = 1 ∨ m.kind = 2)
    (hroom : (T.cost m : Int) ≤ D.room) (hfin : T.row.fin + 2000 ≤ 90000000) (hN : D.files.length ≤ 1000000) (hW : D.waits.length ≤ 1000000) (hrl : T.recs.length ≤ 1000000) (hn : m.kind = 2 → aget Pd ((T.row1 m).fin : Int) = none) (hl : Pd.length ≤ 1000000) (b : Bool) :
    Calls Tryz.prog 40 #[ptr s, .agg (recV m A k), .bool b] w fun e w' => e = .returned (.tuple #[.int .i64 ((T.row1 m).fin : Int), .int .i64 0]) ∧
      ∃ χ', Stp (· ≠ 0) χ w χ' w' ∧ Core χ' w' s a now (T.put m b) L (putP Pd (T.row1 m).fin m) (T.putD D m b) := by
  have h0 : m.kind ≠ 0 := by omega
  have hGA := hG.append hm h0 hfin
  have hf1 := TapeM.row1_fin T hG.ok m
  have hcl := TapeM.cost_le T hG.ok hm h0
  have HAp := Lib.hid (fun (χ : Col) (W : World) (h : IsTape χ 3 4 W a.tp a.mn T) (hd : IsDk χ 1 W a.mn D) (ht : Tab χ W) (hr : RSa W A m.keys) => Append_tape (k := k) h hd hG.ok hG.on ht (by decide) (by decide) (by decide) (by decide) (by decide) (by decide) hr hm hk hroom hfin hN hW hrl)
  have HNo := Lib.hid (fun (χ : Col) (W : World) (h : IsPend χ 11 W a.pd Pd) => Note_any (k := k) (A := A) (m := m) (id := (T.row1 m).fin) h (by omega) hk hn hl)
  have HSy := Lib.hid (fun (χ : Col) (W : World) (h : IsTape χ 3 4 W a.tp a.mn (T.append m)) (hd : IsDk χ 1 W a.mn (T.write D m)) (ht : Tab χ W) => Sync_tape h hd hGA.on ht (by decide) (by decide) (by decide) (by have := (TapeM.write_lens (T := T) D m).2; omega) (TapeM.many_le hGA.ok))
  have hB := ((Below.refl w.heap.size w).alloc (Nat.le_refl _) (.cells (recV m A k) 56)).drew
  have st := (Stp.of_below (C := fun _ => False) (χ := χ) hB).paint (Nat.le_refl _) 0
  have HC1 := Lib.hid (hC.stp st (fun _ _ h => h))
  have HM1 := Lib.hid (show CBlk (paint χ w.heap.size 0) 0 _ _ _ _ from ⟨(Blk.new w (recV m A k) 56).drew, paint_new (Nat.le_refl _)⟩)
  have HK1 := Lib.hid (hr.below hB)
  have HS1 := Lib.hid (st.mono (C' := (· ≠ 0)) fun k hk => hk.elim)
  clear hC hr st hB hG hGA hn
  have hid1 : (T.row1 m).fin ≤ 1000000000 := by omega
  generalize hfn : (T.row1 m).fin = id at *
  clear hfn hf1
  unfold ptr at *
  simp only [recV] at *
  go_enter Tryz.func40, Tryz.ntmps40
  go_wp2_with (fail)
  have e0 : _ ∧ _ := And.intro (show _ = some (Value.pointer (some ⟨a.tp, 0, none⟩)) from HC1.out.own.1.cell 0) (And.intro (HM1.out.1.cell 0) (And.intro (HM1.out.1.cell 1) (And.intro (HM1.out.1.cell 2) (And.intro (HM1.out.1.cell 3) (And.intro (HM1.out.1.cell 4) (And.intro (HM1.out.1.cell 5) (And.intro (HM1.out.1.cell 6) (And.intro (HM1.out.1.cell 7) (And.intro (HM1.out.1.cell 8) (HM1.out.1.cell 9))))))))))
  refine wp_region_held_drew (S := fun w' => w'.cell? ⟨s, 0, none⟩ = some (.pointer (some ⟨a.tp, 0, none⟩)) ∧ w'.cell? ⟨w.heap.size, 0, none⟩ = some (.int .i64 m.kind) ∧ w'.cell? ⟨w.heap.size, 1, none⟩ = some (.int .i64 m.queue) ∧ w'.cell? ⟨w.heap.size, 2, none⟩ = some (.int .i64 m.due) ∧ w'.cell? ⟨w.heap.size, 3, none⟩ = some (.int .i64 m.retry) ∧ w'.cell? ⟨w.heap.size, 4, none⟩ = some (.int .i64 m.ref) ∧ w'.cell? ⟨w.heap.size, 5, none⟩ = some (.int .i64 m.born) ∧ w'.cell? ⟨w.heap.size, 6, none⟩ = some (.string (S m.topic)) ∧ w'.cell? ⟨w.heap.size, 7, none⟩ = some (.string (S m.tag)) ∧ w'.cell? ⟨w.heap.size, 8, none⟩ = some (.string (S m.body)) ∧ w'.cell? ⟨w.heap.size, 9, none⟩ = some (.slice A m.keys.length k)) (by kernel_rfl) e0 (fun hHeld => ?_)
  clear e0
  generalize (w.alloc (.cells #[.int .i64 m.kind, .int .i64 m.queue, .int .i64 m.due, .int .i64 m.retry, .int .i64 m.ref, .int .i64 m.born, .string (S m.topic), .string (S m.tag), .string (S m.body), .slice A m.keys.length k] 56)).drew = w1 at *
  generalize paint χ w.heap.size 0 = χ1 at *
  refine wpAnyH_take (i := 0) (oi := ⟨some 14, _, _, _, _, _⟩) (v := ?_) rfl (by kernel_rfl) (by kernel_rfl) (by kernel_rfl) (fun _ _ _ h => h) (Or.inl ⟨by rfl, (by intro w hSw; (try dsimp only at hSw); go_simp; try with_reducible rfl)⟩) hHeld ?_
  try simp only [Act.put, List.setIfInBounds_toArray, List.set_cons_zero, List.set_cons_succ]
  refine wpAnyH_take (i := 4) (oi := ⟨some 18, _, _, _, _, _⟩) (v := ?_) rfl (by kernel_rfl) (by kernel_rfl) (by kernel_rfl) (fun _ _ _ h => h) (Or.inl ⟨by rfl, (by intro w hSw; (try dsimp only at hSw); go_simp; try with_reducible rfl)⟩) hHeld ?_
  try simp only [Act.put, List.setIfInBounds_toArray, List.set_cons_zero, List.set_cons_succ]
  refine wpAnyH_take (i := 1) (oi := ⟨some 15, _, _, _, _, _⟩) (v := ?_) rfl (by kernel_rfl) (by kernel_rfl) (by kernel_rfl) (fun _ _ _ h => h) (Or.inl ⟨by rfl, (by intro w hSw; (try dsimp only at hSw); go_simp; try with_reducible rfl)⟩) hHeld ?_
  try simp only [Act.put, List.setIfInBounds_toArray, List.set_cons_zero, List.set_cons_succ]
  refine wpAnyH_take (i := 2) (oi := ⟨some 16, _, _, _, _, _⟩) (v := ?_) rfl (by kernel_rfl) (by kernel_rfl) (by kernel_rfl) (fun _ _ _ h => h) (Or.inl ⟨by rfl, (by intro w hSw; (try dsimp only at hSw); go_simp; try with_reducible rfl)⟩) hHeld ?_
  try simp only [Act.put, List.setIfInBounds_toArray, List.set_cons_zero, List.set_cons_succ]
  refine wpAnyH_take (i := 3) (oi := ⟨some 17, _, _, _, _, _⟩) (v := ?_) rfl (by kernel_rfl) (by kernel_rfl) (by kernel_rfl) (fun _ _ _ h => h) (Or.inl ⟨by rfl, (by intro w hSw; (try dsimp only at hSw); go_simp; try with_reducible rfl)⟩) hHeld ?_
  try simp only [Act.put, List.setIfInBounds_toArray, List.set_cons_zero, List.set_cons_succ]
  refine wpAnyH_ready (rs := [5]) (by kernel_rfl) (by simp) ?_
  refine AllReadyH.cons (o := ⟨some 19, _, _, _, _, _⟩) rfl (fun K hK => ?_) AllReadyH.nil
  go_simp
  refine (HAp.out χ1 w1 HC1.out.tp HC1.out.dk HC1.out.tab HK1.out).mono ?_
  rintro e w2 ⟨rfl, χ2, s2, ht2, hd2⟩
  have HO2 := Lib.hid (HC1.out.own.stp s2 (by decide))
  have HB2 := Lib.hid (HC1.out.tb.stp s2 (by decide))
  have HP2 := Lib.hid (HC1.out.pd.stp s2 (by decide))
  have HT2 := Lib.hid (HC1.out.tab.stp s2 (by decide))
  have HM2 := Lib.hid (HM1.out.stp s2 (by decide))
  have HS2 := Lib.hid (HS1.out.trans (s2.mono fun k hk => by rcases hk with rfl | rfl | rfl <;> decide))
  have HTP2 := Lib.hid ht2
  have HD2 := Lib.hid hd2
  have hS2 := And.intro (show _ = some (Value.pointer (some ⟨a.tp, 0, none⟩)) from HO2.out.1.cell 0) (And.intro (HM2.out.1.cell 0) (And.intro (HM2.out.1.cell 1) (And.intro (HM2.out.1.cell 2) (And.intro (HM2.out.1.cell 3) (And.intro (HM2.out.1.cell 4) (And.intro (HM2.out.1.cell 5) (And.intro (HM2.out.1.cell 6) (And.intro (HM2.out.1.cell 7) (And.intro (HM2.out.1.cell 8) (HM2.out.1.cell 9))))))))))
  refine hK.out _ _ hS2 (fun hHeld => ?_)
  clear hK K
  try simp only [Act.put, List.setIfInBounds_toArray, List.set_cons_zero, List.set_cons_succ]
  refine wpAnyH_take (i := 6) (oi := ⟨some 13, _, _, _, _, _⟩) (v := ?_) rfl (by kernel_rfl) (by kernel_rfl) (by kernel_rfl) (fun _ _ _ h => h) (Or.inl ⟨by rfl, (by intro w hSw; (try dsimp only at hSw); go_simp; try with_reducible rfl)⟩) hHeld ?_
  try simp only [Act.put, List.setIfInBounds_toArray, List.set_cons_zero, List.set_cons_succ]
  refine wpAnyH_take (i := 7) (oi := ⟨some 20, _, _, _, _, _⟩) (v := ?_) rfl (by kernel_rfl) (by kernel_rfl) (by kernel_rfl) (fun _ _ _ h => h) (Or.inl ⟨by rfl, (by intro w hSw; (try dsimp only at hSw); go_simp; try with_reducible rfl)⟩) hHeld ?_
  try simp only [Act.put, List.setIfInBounds_toArray, List.set_cons_zero, List.set_cons_succ]
  refine wpAnyH_take (i := 8) (oi := ⟨some 21, _, _, _, _, _⟩) (v := ?_) rfl (by kernel_rfl) (by kernel_rfl) (by kernel_rfl) (fun _ _ _ h => h) (Or.inl ⟨by rfl, (by intro w hSw; (try dsimp only at hSw); go_simp; try with_reducible rfl)⟩) hHeld ?_
  try simp only [Act.put, List.setIfInBounds_toArray, List.set_cons_zero, List.set_cons_succ]
  refine wpAnyH_take (i := 9) (oi := ⟨some 8, _, _, _, _, _⟩) (v := ?_) rfl (by kernel_rfl) (by kernel_rfl) (by kernel_rfl) (fun _ _ _ h => h) (Or.inl ⟨by rfl, (by intro w hSw; (try dsimp only at hSw); go_simp; try with_reducible rfl)⟩) hHeld ?_
  try simp only [Act.put, List.setIfInBounds_toArray, List.set_cons_zero, List.set_cons_succ]
  refine wpAnyH_take (i := 10) (oi := ⟨some 9, _, _, _, _, _⟩) (v := ?_) rfl (by kernel_rfl) (by kernel_rfl) (by kernel_rfl) (fun _ _ _ h => h) (Or.inl ⟨by rfl, (by intro w hSw; (try dsimp only at hSw); go_simp; try with_reducible rfl)⟩) hHeld ?_
  try simp only [Act.put, List.setIfInBounds_toArray, List.set_cons_zero, List.set_cons_succ]
  refine wpAnyH_done (by kernel_rfl) ?_ _
  clear hHeld hS2 s2 ht2 hd2 HC1 HM1 HS1 HK1 HAp
  go_wp2_with (fail)
  have e0 : _ ∧ _ := And.intro (show _ = some (Value.pointer (some ⟨a.pd, 0, none⟩)) from (HO2.out.1.drew).cell 6) (And.intro ((HM2.out.1.drew).cell 0) (And.intro ((HM2.out.1.drew).cell 1) (And.intro ((HM2.out.1.drew).cell 2) (And.intro ((HM2.out.1.drew).cell 3) (And.intro ((HM2.out.1.drew).cell 4) (And.intro ((HM2.out.1.drew).cell 5) (And.intro ((HM2.out.1.drew).cell 6) (And.intro ((HM2.out.1.drew).cell 7) (And.intro ((HM2.out.1.drew).cell 8) ((HM2.out.1.drew).cell 9))))))))))
  have hdr := Stp.of_below (C := fun _ => False) (χ := χ2) (below_drewN w2 1)
  have HO3 := Lib.hid (HO2.out.stp hdr (fun h => h))
  have HB3 := Lib.hid (HB2.out.stp hdr (fun h => h))
  have HP3 := Lib.hid (HP2.out.stp hdr (fun h => h))
  have HT3 := Lib.hid (HT2.out.stp hdr (fun h => h))
  have HM3 := Lib.hid (HM2.out.stp hdr (fun h => h))
  have HTP3 := Lib.hid (HTP2.out.stp hdr (fun h => h) (fun h => h))
  have HD3 := Lib.hid (HD2.out.stp hdr (fun h => h))
  have HS3 := Lib.hid (HS2.out.trans (hdr.mono fun k hk => hk.elim))
  refine wp_region_held_drew (S := fun w' => w'.cell? ⟨s, 6, none⟩ = some (.pointer (some ⟨a.pd, 0, none⟩)) ∧ w'.cell? ⟨w.heap.size, 0, none⟩ = some (.int .i64 m.kind) ∧ w'.cell? ⟨w.heap.size, 1, none⟩ = some (.int .i64 m.queue) ∧ w'.cell? ⟨w.heap.size, 2, none⟩ = some (.int .i64 m.due) ∧ w'.cell? ⟨w.heap.size, 3, none⟩ = some (.int .i64 m.retry) ∧ w'.cell? ⟨w.heap.size, 4, none⟩ = some (.int .i64 m.ref) ∧ w'.cell? ⟨w.heap.size, 5, none⟩ = some (.int .i64 m.born) ∧ w'.cell? ⟨w.heap.size, 6, none⟩ = some (.string (S m.topic)) ∧ w'.cell? ⟨w.heap.size, 7, none⟩ = some (.string (S m.tag)) ∧ w'.cell? ⟨w.heap.size, 8, none⟩ = some (.string (S m.body)) ∧ w'.cell? ⟨w.heap.size, 9, none⟩ = some (.slice A m.keys.length k)) (by kernel_rfl) e0 (fun hHeld => ?_)
  rw [show w2.drewN 1 = w2.drew from rfl] at *
  generalize w2.drew = w3 at *
  clear e0 hdr HO2 HB2 HP2 HT2 HM2 HTP2 HD2 HS2
  refine wpAnyH_take (i := 0) (oi := ⟨some 25, _, _, _, _, _⟩) (v := ?_) rfl (by kernel_rfl) (by kernel_rfl) (by kernel_rfl) (fun _ _ _ h => h) (Or.inl ⟨by rfl, (by intro w hSw; (try dsimp only at hSw); go_simp; try with_reducible rfl)⟩) hHeld ?_
  try simp only [Act.put, List.setIfInBounds_toArray, List.set_cons_zero, List.set_cons_succ]
  refine wpAnyH_take (i := 4) (oi := ⟨some 29, _, _, _, _, _⟩) (v := ?_) rfl (by kernel_rfl) (by kernel_rfl) (by kernel_rfl) (fun _ _ _ h => h) (Or.inl ⟨by rfl, (by intro w hSw; (try dsimp only at hSw); go_simp; try with_reducible rfl)⟩) hHeld ?_
  try simp only [Act.put, List.setIfInBounds_toArray, List.set_cons_zero, List.set_cons_succ]
  refine wpAnyH_take (i := 5) (oi := ⟨some 30, _, _, _, _, _⟩) (v := ?_) rfl (by kernel_rfl) (by kernel_rfl) (by kernel_rfl) (fun _ _ _ h => h) (Or.inl ⟨by rfl, (by intro w hSw; (try dsimp only at hSw); go_simp; try with_reducible rfl)⟩) hHeld ?_
  try simp only [Act.put, List.setIfInBounds_toArray, List.set_cons_zero, List.set_cons_succ]
  refine wpAnyH_take (i := 1) (oi := ⟨some 26, _, _, _, _, _⟩) (v := ?_) rfl (by kernel_rfl) (by kernel_rfl) (by kernel_rfl) (fun _ _ _ h => h) (Or.inl ⟨by rfl, (by intro w hSw; (try dsimp only at hSw); go_simp; try with_reducible rfl)⟩) hHeld ?_
  try simp only [Act.put, List.setIfInBounds_toArray, List.set_cons_zero, List.set_cons_succ]
  refine wpAnyH_take (i := 2) (oi := ⟨some 27, _, _, _, _, _⟩) (v := ?_) rfl (by kernel_rfl) (by kernel_rfl) (by kernel_rfl) (fun _ _ _ h => h) (Or.inl ⟨by rfl, (by intro w hSw; (try dsimp only at hSw); go_simp; try with_reducible rfl)⟩) hHeld ?_
  try simp only [Act.put, List.setIfInBounds_toArray, List.set_cons_zero, List.set_cons_succ]
  refine wpAnyH_take (i := 3) (oi := ⟨some 28, _, _, _, _, _⟩) (v := ?_) rfl (by kernel_rfl) (by kernel_rfl) (by kernel_rfl) (fun _ _ _ h => h) (Or.inl ⟨by rfl, (by intro w hSw; (try dsimp only at hSw); go_simp; try with_reducible rfl)⟩) hHeld ?_
  try simp only [Act.put, List.setIfInBounds_toArray, List.set_cons_zero, List.set_cons_succ]
  refine wpAnyH_ready (rs := [6]) (by kernel_rfl) (by simp) ?_
  refine AllReadyH.cons (o := ⟨some 31, _, _, _, _, _⟩) rfl (fun K hK => ?_) AllReadyH.nil
  go_simp
  refine (HNo.out χ2 w3 HP3.out).mono ?_
  rintro e w4 ⟨bn, rfl, χ4, s4, hp4⟩
  have HO4 := Lib.hid (HO3.out.stp s4 (by decide))
  have HB4 := Lib.hid (HB3.out.stp s4 (by decide))
  have HT4 := Lib.hid (HT3.out.stp s4 (by decide))
  have HM4 := Lib.hid (HM3.out.stp s4 (by decide))
  have HTP4 := Lib.hid (HTP3.out.stp s4 (by decide) (by decide))
  have HD4 := Lib.hid (HD3.out.stp s4 (by decide))
  have HS4 := Lib.hid (HS3.out.trans (s4.mono fun k hk => by rw [hk]; decide))
  have HP4 := Lib.hid hp4
  have hS2 := And.intro (show _ = some (Value.pointer (some ⟨a.pd, 0, none⟩)) from HO4.out.1.cell 6) (And.intro (HM4.out.1.cell 0) (And.intro (HM4.out.1.cell 1) (And.intro (HM4.out.1.cell 2) (And.intro (HM4.out.1.cell 3) (And.intro (HM4.out.1.cell 4) (And.intro (HM4.out.1.cell 5) (And.intro (HM4.out.1.cell 6) (And.intro (HM4.out.1.cell 7) (And.intro (HM4.out.1.cell 8) (HM4.out.1.cell 9))))))))))
  refine hK.out _ _ hS2 (fun hHeld => ?_)
  clear hK K
  try simp only [Act.put, List.setIfInBounds_toArray, List.set_cons_zero, List.set_cons_succ]
  refine wpAnyH_done (by kernel_rfl) ?_ _
  clear hHeld hS2 s4 hp4 HO3 HB3 HP3 HT3 HM3 HTP3 HD3 HS3 HNo
  cases b with
  | false =>
    go_wp2_with (fail)
    go_ret2
    have h1 : T.put m false = T.append m := rfl
    have h2 : T.putD D m false = T.write D m := rfl
    rw [h1, h2]
    exact ⟨rfl, χ4, HS4.out, HO4.out, HD4.out, HTP4.out, HB4.out, HP4.out, HT4.out⟩
  | true =>
    have e0 : w4.cell? ⟨s, 0, none⟩ = some (.pointer (some ⟨a.tp, 0, none⟩)) := HO4.out.1.cell 0
    go_wp2_with (fail)
    refine (HSy.out χ4 w4 HTP4.out HD4.out HT4.out).mono ?_
    rintro e w5 ⟨rfl, χ5, s5, ht5, hd5⟩
    have HO5 := HO4.out.stp s5 (by decide)
    have HB5 := HB4.out.stp s5 (by decide)
    have HT5 := HT4.out.stp s5 (by decide)
    have HP5 := HP4.out.stp s5 (by decide)
    have HK := Lib.hid (show Core χ5 w5 s a now (T.put m true) L (putP Pd id m) (T.putD D m true) from ⟨HO5, hd5, ht5, HB5, HP5, HT5⟩)
    have HS5 := Lib.hid (HS4.out.trans (s5.mono fun k hk => by rcases hk with rfl | rfl <;> decide))
    clear HO5 HB5 HT5 HP5 s5 ht5 hd5 HSy e0
    go_wp2_with (fail)
    go_ret2
    exact ⟨rfl, χ5, HS5.out, HK.out⟩

end Go.Proofs.YtnacjogdndggeaaGreatDoor
end

section
namespace Go.Proofs.YtnacjogdndggeaaGreatDoor
open Go.Shelf Go.RowKit Go.Lib
set_option maxRecDepth 100000
set_option maxHeartbeats 1000000

/-- How many queues a topic has. -/
def queuesL (L : Tops) (n : List UInt8) : Nat := match L.find? (fun t => decide (t.1 = n)) with | some t => t.2 | none => 0
theorem queuesL_hit {L : Tops} {n : List UInt8} {k : Nat} (hk : k < L.length) (h : ∀ j, j < k → ∀ hj : j < L.length, L[j].1 ≠ n) (hp : L[k].1 = n) : queuesL L n = L[k].2 := by
  have : L.find? (fun t => decide (t.1 = n)) = some L[k] := by
    rw [List.find?_eq_some_iff_getElem]
    exact ⟨by simp [hp], k, hk, rfl, fun j hj => by simp [h j hj (by omega)]⟩
  unfold queuesL
  rw [this]
theorem queuesL_miss {L : Tops} {n : List UInt8} (h : ∀ j, j < L.length → ∀ hj : j < L.length, L[j].1 ≠ n) : queuesL L n = 0 := by
  have : L.find? (fun t => decide (t.1 = n)) = none := by
    rw [List.find?_eq_none]
    intro x hx
    obtain ⟨j, hj, rfl⟩ := List.getElem_of_mem hx
    simp [h j hj hj]
  unfold queuesL
  rw [this]

theorem Queues_any {χ : Col} {c p d : Nat} {L : Tops} {w : World} {n : List UInt8} (hT : IsTops χ c w p d L) (ho : (ofF n).2 = false) (hl : L.length ≤ 1000) :
    Calls Tryz.prog 79 #[.pointer (some ⟨p, 0, none⟩), .string (S n)] w fun e w' => e = .returned (.int .i64 (queuesL L n : Int)) ∧ Below w.heap.size w w' := by
  obtain ⟨tv, h⟩ := hT
  obtain ⟨A, cap, rfl⟩ := row_any h.row
  have HR := Lib.hid (RTa_of_row h.row)
  have hO := Of_any n w
  rw [ho] at hO
  have hplt := h.own.1.lt
  have C1 := Lib.hid (show w.cell? ⟨p, 1, none⟩ = some (.slice A L.length cap) from h.own.1.cell 1)
  clear h ho
  generalize (ofF n).1 = og at *
  go_enter Tryz.func79, Tryz.ntmps79
  go_wp2_with (fail)
  refine hO.mono ?_
  rintro e w1 ⟨rfl, hb⟩
  have HB1 := Lib.hid hb
  have c1 := (hb.cell (p := ⟨p, 1, none⟩) hplt).trans C1.out
  clear hb hO
  go_wp2_with (fail)
  clear c1
  go_loopw [22] (fun vi wr => ∃ k : Nat, k ≤ L.length ∧ vi = .int .i64 k ∧ Hid (∀ j, j < k → ∀ hj : j < L.length, L[j].1 ≠ n) ∧ Hid (Below w.heap.size w wr)) (fun vi _ => L.length - (RowKit.intOf vi).toNat)
  case atStart => exact ⟨0, Nat.zero_le _, rfl, Lib.hid (fun j hj => absurd hj (by omega)), HB1⟩
  case round =>
    obtain ⟨k, hk, rfl, HF, HB⟩ := hrel
    by_cases hlt : k < L.length
    · obtain ⟨g, rfl, c0, c1⟩ := (HR.out.below HB.out) k hlt
      have HB2 := Lib.hid (HB.out.alloc HB.out.size (.cells #[.string (S L[k].1), .int .i64 (L[k].2 : Int)] 122))
      have HK := Lib.hid (queuesL_hit (n := n) hlt HF.out)
      have HN : Hid (L[k].1 ≠ n → ∀ j, j < k + 1 → ∀ hj : j < L.length, L[j].1 ≠ n) := Lib.hid fun hne j hj hj2 => by
        rcases Nat.lt_succ_iff_lt_or_eq.1 hj with h | rfl
        · exact HF.out j h hj2
        · exact hne
      generalize L[k] = t at *
      obtain ⟨m, q⟩ := t
      simp only at c0 c1 HB2 HK HN
      by_cases hm : m = n
      · have hmb : (m == n) = true := by simp [hm]
        have HQ := Lib.hid (HK.out hm)
        clear hm HK HN
        go_wp2
        go_ret
        exact ⟨ret_int (by rw [HQ.out]), HB2.out⟩
      · have hmb : (m == n) = false := by simp [hm]
        have HN2 := Lib.hid (HN.out hm)
        clear hm HK HN
        go_wp2
        exact ⟨⟨k + 1, hlt, by go_num, HN2, HB2⟩, by simp [RowKit.intOf]; omega⟩
    · have hkn : k = L.length := by omega
      subst hkn
      go_wp2
      go_ret
      exact ⟨ret_int (by rw [queuesL_miss HF.out]; rfl), HB.out⟩

/-- Is there a topic's queue? -/
def checkL (L : Tops) (n : List UInt8) (q : Int) : Int := if queuesL L n = 0 then 12 else if q < 0 ∨ (queuesL L n : Int) ≤ q then 13 else 0
theorem TCheck_any {χ : Col} {c p d : Nat} {L : Tops} {w : World} {n : List UInt8} (hT : IsTops χ c w p d L) (ho : (ofF n).2 = false) (hl : L.length ≤ 1000) (q : Int) :
    Calls Tryz.prog 35 #[.pointer (some ⟨p, 0, none⟩), .string (S n), .int .i64 q] w fun e w' => e = .returned (.int .i64 (checkL L n q)) ∧ Below w.heap.size w w' := by
  have hQ := Queues_any hT ho hl
  have HK : Hid (checkL L n q = if queuesL L n = 0 then 12 else if q < 0 ∨ (queuesL L n : Int) ≤ q then 13 else 0) := rfl
  generalize queuesL L n = k at *
  clear hT
  go_enter Tryz.func35, Tryz.ntmps35
  go_wp2_with (fail)
  refine hQ.mono ?_
  rintro e w1 ⟨rfl, hb⟩
  have HB1 := Lib.hid hb
  clear hb hQ
  by_cases h0 : k = 0
  · have h0i : (k : Int) = 0 := by omega
    have HE := Lib.hid (show checkL L n q = 12 by rw [HK.out, if_pos h0])
    clear HK
    subst h0
    go_wp2
    go_ret
    exact ⟨ret_int HE.out.symm, HB1.out⟩
  · have h0i : ¬ (k : Int) = 0 := by omega
    by_cases h1 : q < 0
    · have HE := Lib.hid (show checkL L n q = 13 by rw [HK.out, if_neg h0, if_pos (.inl h1)])
      clear HK
      go_wp2
      go_ret
      exact ⟨ret_int HE.out.symm, HB1.out⟩
    · by_cases h2 : (k : Int) ≤ q
      · have HE := Lib.hid (show checkL L n q = 13 by rw [HK.out, if_neg h0, if_pos (.inr h2)])
        clear HK
        go_wp2
        go_ret
        exact ⟨ret_int HE.out.symm, HB1.out⟩
      · have HE := Lib.hid (show checkL L n q = 0 by rw [HK.out, if_neg h0, if_neg (by omega)])
        clear HK
        go_wp2
        go_ret
        exact ⟨ret_int HE.out.symm, HB1.out⟩

theorem TAll_any {χ : Col} {c p d : Nat} {L : Tops} {w : World} (hT : IsTops χ c w p d L) (hl : L.length ≤ 1000) :
    Calls Tryz.prog 23 #[.pointer (some ⟨p, 0, none⟩)] w fun e w' => ∃ A cap, e = .returned (.slice A L.length cap) ∧ Below w.heap.size w w' := by
  obtain ⟨tv, h⟩ := hT
  have hC := TClone_any h.row hl
  have c1 := h.own.1.cell 1
  obtain ⟨A, cap, rfl⟩ := row_any h.row
  clear h
  go_enter Tryz.func23, Tryz.ntmps23
  go_wp2_with (fail)
  refine hC.mono ?_
  rintro e w1 ⟨v, rfl, hv, hb⟩
  obtain ⟨A, cap, rfl⟩ := row_any hv
  clear hv hC
  go_wp2
  go_ret
  exact ⟨A, cap, rfl, hb⟩

end Go.Proofs.YtnacjogdndggeaaGreatDoor
end

section
namespace Go.Proofs.YtnacjogdndggeaaGreatDoor
open Go.Shelf Go.RowKit Go.Lib
set_option maxRecDepth 100000
set_option maxHeartbeats 1000000

/-- What is sent. -/
structure WantR where
  topic : List UInt8
  queue : Int
  tag : List UInt8
  keys : List (List UInt8)
  body : List UInt8
def wantV (x : WantR) (A : Option Addr) (c : Nat) : Array Value := #[.string (S x.topic), .int .i64 x.queue, .string (S x.tag), .slice A x.keys.length c, .string (S x.body)]
/-- Why something may not be sent; 0: it may. -/
def sendE (L : Tops) (x : WantR) : Int :=
  if (ofF x.topic).2 = true then 12
  else if checkL L x.topic x.queue ≠ 0 then checkL L x.topic x.queue
  else if tagF x.tag = false then 11
  else if keysF x.keys = false then 11
  else if 3 < x.keys.length then 6
  else if 200 < x.body.length then 6
  else if x.keys.Nodup then 0 else 10

theorem Check_any {χ : Col} {w : World} {s c : Nat} {a : SAddr} {now : Int} {T : TapeM} {L : Tops} {Pd : Pends} {D : Dsk} {x : WantR} {A : Option Addr} (hC : Core χ w s a now T L Pd D) (hr : RSa w A x.keys) (hk : x.keys.length ≤ 1000) (hl : L.length ≤ 1000) :
    Calls Tryz.prog 17 #[ptr s, .agg (wantV x A c)] w fun e w' => e = .returned (.int .i64 (sendE L x)) ∧ Below w.heap.size w w' := by
  have hE : sendE L x = if (ofF x.topic).2 = true then 12 else if checkL L x.topic x.queue ≠ 0 then checkL L x.topic x.queue else if tagF x.tag = false then 11 else if keysF x.keys = false then 11 else if 3 < x.keys.length then 6 else if 200 < x.body.length then 6 else if x.keys.Nodup then 0 else 10 := rfl
  have HE := Lib.hid hE
  clear hE
  generalize sendE L x = E at *
  have hB := (Below.refl w.heap.size w).alloc (Nat.le_refl _) (.cells (wantV x A c) 33)
  have HC1 := Lib.hid (hC.below hB)
  have HM1 := Lib.hid (Blk.new w (wantV x A c) 33)
  have HK1 := Lib.hid (hr.below hB)
  have HB1 := Lib.hid hB
  have HOF := Lib.hid (Of_any x.topic)
  have HTC := Lib.hid (fun (W : World) (h : IsTops χ 5 W a.tb a.mn L) (ho : (ofF x.topic).2 = false) => TCheck_any h ho hl x.queue)
  have HTG := Lib.hid (fun (W : World) => Tag_any x.tag W)
  have HKE := Lib.hid (fun (W : World) (h : RSa W A x.keys) => AllKey_any A c x.keys W h (by omega))
  have HUN := Lib.hid (fun (W : World) (h : RSa W A x.keys) => unlike_send A c x.keys W h hk)
  have HTE : Hid (tagF x.tag = (decide (x.tag = []) || plainF x.tag)) := rfl
  clear hC hr hB
  unfold ptr at *
  simp only [wantV] at *
  go_enter Tryz.func17, Tryz.ntmps17
  go_upto_region 1 with (fail)
  generalize w.alloc (.cells #[.string (S x.topic), .int .i64 x.queue, .string (S x.tag), .slice A x.keys.length c, .string (S x.body)] 33) = w1 at *
  have b0 := HM1.out.cell 0
  have hO := HOF.out w1
  generalize (ofF x.topic).1 = og at *
  go_wp2_with (fail)
  refine hO.mono ?_
  rintro e w2 ⟨rfl, hb⟩
  have HC2 := Lib.hid (HC1.out.below hb)
  have HM2 := Lib.hid (HM1.out.below hb)
  have HK2 := Lib.hid (HK1.out.below hb)
  have HB2 := Lib.hid (HB1.out.trans (hb.mono HB1.out.size))
  clear hO hb b0 HC1 HM1 HK1 HB1 HOF
  cases ho : (ofF x.topic).2 with
  | true =>
    have HR := Lib.hid (show E = 12 by rw [HE.out, ho, if_pos rfl])
    clear ho HE HTC
    go_wp2_with (fail)
    go_ret
    exact ⟨ret_int HR.out.symm, HB2.out⟩
  | false =>
    have HE2 := HE.out
    rw [ho, if_neg (by decide)] at HE2
    have HE3 := Lib.hid HE2
    have HO := Lib.hid ho
    clear HE HE2 ho
    go_wp2_with (fail)
    have hbd := below_drewN w2 1
    have HC3 := Lib.hid (HC2.out.below hbd)
    have HM3 := Lib.hid (HM2.out.below hbd)
    have HK3 := Lib.hid (HK2.out.below hbd)
    have HB3 := Lib.hid (HB2.out.trans (hbd.mono HB2.out.size))
    have e0 : _ ∧ _ := And.intro (show _ = some (Value.pointer (some ⟨a.tb, 0, none⟩)) from HC3.out.own.1.cell 3) (And.intro (HM3.out.cell 0) (And.intro (HM3.out.cell 1) (And.intro (HM3.out.cell 2) (And.intro (HM3.out.cell 3) (HM3.out.cell 4)))))
    refine wp_region_held_drew (S := fun w' => w'.cell? ⟨s, 3, none⟩ = some (.pointer (some ⟨a.tb, 0, none⟩)) ∧ w'.cell? ⟨w.heap.size, 0, none⟩ = some (.string (S x.topic)) ∧ w'.cell? ⟨w.heap.size, 1, none⟩ = some (.int .i64 x.queue) ∧ w'.cell? ⟨w.heap.size, 2, none⟩ = some (.string (S x.tag)) ∧ w'.cell? ⟨w.heap.size, 3, none⟩ = some (.slice A x.keys.length c) ∧ w'.cell? ⟨w.heap.size, 4, none⟩ = some (.string (S x.body))) (by kernel_rfl) e0 (fun hHeld => ?_)
    rw [show w2.drewN 1 = w2.drew from rfl] at *
    generalize w2.drew = w3 at *
    clear e0 hbd HC2 HM2 HK2 HB2
    refine wpAnyH_take (i := 0) (oi := ⟨some 17, _, _, _, _, _⟩) (v := ?_) rfl (by kernel_rfl) (by kernel_rfl) (by kernel_rfl) (fun _ _ _ h => h) (Or.inl ⟨by rfl, (by intro w hSw; (try dsimp only at hSw); go_simp; try with_reducible rfl)⟩) hHeld ?_
    try simp only [Act.put, List.setIfInBounds_toArray, List.set_cons_zero, List.set_cons_succ]
    refine wpAnyH_take (i := 4) (oi := ⟨some 21, _, _, _, _, _⟩) (v := ?_) rfl (by kernel_rfl) (by kernel_rfl) (by kernel_rfl) (fun _ _ _ h => h) (Or.inl ⟨by rfl, (by intro w hSw; (try dsimp only at hSw); go_simp; try with_reducible rfl)⟩) hHeld ?_
    try simp only [Act.put, List.setIfInBounds_toArray, List.set_cons_zero, List.set_cons_succ]
    refine wpAnyH_take (i := 6) (oi := ⟨some 23, _, _, _, _, _⟩) (v := ?_) rfl (by kernel_rfl) (by kernel_rfl) (by kernel_rfl) (fun _ _ _ h => h) (Or.inl ⟨by rfl, (by intro w hSw; (try dsimp only at hSw); go_simp; try with_reducible rfl)⟩) hHeld ?_
    try simp only [Act.put, List.setIfInBounds_toArray, List.set_cons_zero, List.set_cons_succ]
    refine wpAnyH_take (i := 1) (oi := ⟨some 18, _, _, _, _, _⟩) (v := ?_) rfl (by kernel_rfl) (by kernel_rfl) (by kernel_rfl) (fun _ _ _ h => h) (Or.inl ⟨by rfl, (by intro w hSw; (try dsimp only at hSw); go_simp; try with_reducible rfl)⟩) hHeld ?_
    try simp only [Act.put, List.setIfInBounds_toArray, List.set_cons_zero, List.set_cons_succ]
    refine wpAnyH_take (i := 5) (oi := ⟨some 22, _, _, _, _, _⟩) (v := ?_) rfl (by kernel_rfl) (by kernel_rfl) (by kernel_rfl) (fun _ _ _ h => h) (Or.inl ⟨by rfl, (by intro w hSw; (try dsimp only at hSw); go_simp; try with_reducible rfl)⟩) hHeld ?_
    try simp only [Act.put, List.setIfInBounds_toArray, List.set_cons_zero, List.set_cons_succ]
    refine wpAnyH_take (i := 7) (oi := ⟨some 24, _, _, _, _, _⟩) (v := ?_) rfl (by kernel_rfl) (by kernel_rfl) (by kernel_rfl) (fun _ _ _ h => h) (Or.inl ⟨by rfl, (by intro w hSw; (try dsimp only at hSw); go_simp; try with_reducible rfl)⟩) hHeld ?_
    try simp only [Act.put, List.setIfInBounds_toArray, List.set_cons_zero, List.set_cons_succ]
    refine wpAnyH_take (i := 2) (oi := ⟨some 19, _, _, _, _, _⟩) (v := ?_) rfl (by kernel_rfl) (by kernel_rfl) (by kernel_rfl) (fun _ _ _ h => h) (Or.inl ⟨by rfl, (by intro w hSw; (try dsimp only at hSw); go_simp; try with_reducible rfl)⟩) hHeld ?_
    try simp only [Act.put, List.setIfInBounds_toArray, List.set_cons_zero, List.set_cons_succ]
    refine wpAnyH_take (i := 3) (oi := ⟨some 20, _, _, _, _, _⟩) (v := ?_) rfl (by kernel_rfl) (by kernel_rfl) (by kernel_rfl) (fun _ _ _ h => h) (Or.inl ⟨by rfl, (by intro w hSw; (try dsimp only at hSw); go_simp; try with_reducible rfl)⟩) hHeld ?_
    try simp only [Act.put, List.setIfInBounds_toArray, List.set_cons_zero, List.set_cons_succ]
    refine wpAnyH_ready (rs := [8]) (by kernel_rfl) (by simp) ?_
    refine AllReadyH.cons (o := ⟨some 25, _, _, _, _, _⟩) rfl (fun K hK => ?_) AllReadyH.nil
    go_simp
    refine (HTC.out w3 HC3.out.tb HO.out).mono ?_
    rintro e w4 ⟨rfl, hb⟩
    have HC4 := Lib.hid (HC3.out.below hb)
    have HM4 := Lib.hid (HM3.out.below hb)
    have HK4 := Lib.hid (HK3.out.below hb)
    have HB4 := Lib.hid (HB3.out.trans (hb.mono HB3.out.size))
    have hS2 := And.intro (show _ = some (Value.pointer (some ⟨a.tb, 0, none⟩)) from HC4.out.own.1.cell 3) (And.intro (HM4.out.cell 0) (And.intro (HM4.out.cell 1) (And.intro (HM4.out.cell 2) (And.intro (HM4.out.cell 3) (HM4.out.cell 4)))))
    refine hK.out _ _ hS2 (fun hHeld => ?_)
    clear hK K
    try simp only [Act.put, List.setIfInBounds_toArray, List.set_cons_zero, List.set_cons_succ]
    refine wpAnyH_take (i := 9) (oi := ⟨some 7, _, _, _, _, _⟩) (v := ?_) rfl (by kernel_rfl) (by kernel_rfl) (by kernel_rfl) (fun _ _ _ h => h) (Or.inl ⟨by rfl, (by intro w hSw; (try dsimp only at hSw); go_simp; try with_reducible rfl)⟩) hHeld ?_
    try simp only [Act.put, List.setIfInBounds_toArray, List.set_cons_zero, List.set_cons_succ]
    refine wpAnyH_done (by kernel_rfl) ?_ _
    clear hHeld hS2 hb HC3 HM3 HK3 HB3 HTC
    generalize checkL L x.topic x.queue = ck at *
    by_cases hck : ck = 0
    · have HE5 := HE3.out
      rw [if_neg (by simp [hck])] at HE5
      have HE6 := Lib.hid HE5
      clear HE5 HE3
      subst hck
      have b2 := HM4.out.cell 2
      have hT := HTG.out w4
      rw [← HTE.out] at hT
      go_wp2_with (fail)
      refine hT.mono ?_
      rintro e w5 ⟨rfl, hb⟩
      have HM5 := Lib.hid (HM4.out.below hb)
      have HK5 := Lib.hid (HK4.out.below hb)
      have HB5 := Lib.hid (HB4.out.trans (hb.mono HB4.out.size))
      have b3 := HM5.out.cell 3
      have b4 := HM5.out.cell 4
      clear b2 hT hb HC4 HM4 HK4 HB4 HTG
      cases htg : tagF x.tag with
      | false =>
        have HR := Lib.hid (show E = 11 by rw [HE6.out, htg, if_pos rfl])
        clear HE6 htg
        go_wp2_with (fail)
        go_ret
        exact ⟨ret_int HR.out.symm, HB5.out⟩
      | true =>
        have HE7 := HE6.out
        rw [htg, if_neg (by decide)] at HE7
        have HE8 := Lib.hid HE7
        clear HE6 HE7 htg
        have hK := HKE.out w5 HK5.out
        go_wp2_with (fail)
        refine hK.mono ?_
        rintro e w' ⟨rfl, rfl⟩
        clear hK
        cases hks : keysF x.keys with
        | false =>
          have HR := Lib.hid (show E = 11 by rw [HE8.out, hks, if_pos rfl])
          clear HE8 hks
          go_wp2_with (fail)
          go_ret
          exact ⟨ret_int HR.out.symm, HB5.out⟩
        | true =>
          have HE9 := HE8.out
          rw [hks, if_neg (by decide)] at HE9
          have HE10 := Lib.hid HE9
          clear HE8 HE9 hks
          by_cases hk3 : 3 < x.keys.length
          · have hk3i : (3 : Int) < (x.keys.length : Int) := by omega
            have HR := Lib.hid (show E = 6 by rw [HE10.out, if_pos hk3])
            clear HE10
            go_wp2_with (fail)
            go_ret
            exact ⟨ret_int HR.out.symm, HB5.out⟩
          · have hk3i : ¬ (3 : Int) < (x.keys.length : Int) := by omega
            have HE11 := HE10.out
            rw [if_neg hk3] at HE11
            have HE12 := Lib.hid HE11
            clear HE10 HE11
            by_cases hb2 : 200 < x.body.length
            · have hb2i : (200 : Int) < (x.body.length : Int) := by omega
              have HR := Lib.hid (show E = 6 by rw [HE12.out, if_pos hb2])
              clear HE12
              go_wp2_with (fail)
              go_ret
              exact ⟨ret_int HR.out.symm, HB5.out⟩
            · have hb2i : ¬ (200 : Int) < (x.body.length : Int) := by omega
              have HE13 := HE12.out
              rw [if_neg hb2] at HE13
              have HE14 := Lib.hid HE13
              clear HE12 HE13
              have hU := HUN.out w5 HK5.out
              go_wp2_with (fail)
              refine hU.mono ?_
              rintro e w6 ⟨rfl, hb⟩
              have HB6 := Lib.hid (HB5.out.trans (hb.mono HB5.out.size))
              clear hU hb
              by_cases hnd : x.keys.Nodup
              · have HR := Lib.hid (show E = 0 by rw [HE14.out, if_pos hnd])
                rw [decide_eq_true hnd]
                clear HE14 hnd
                go_wp2_with (fail)
                go_ret
                exact ⟨ret_int HR.out.symm, HB6.out⟩
              · have HR := Lib.hid (show E = 10 by rw [HE14.out, if_neg hnd])
                rw [decide_eq_false hnd]
                clear HE14 hnd
                go_wp2_with (fail)
                go_ret
                exact ⟨ret_int HR.out.symm, HB6.out⟩
    · have HR := Lib.hid (show E = ck by rw [HE3.out, if_pos hck])
      have hckb : (ck != 0) = true := by simpa using hck
      clear HE3
      go_wp2_with (fail)
      go_ret
      exact ⟨ret_int HR.out.symm, HB4.out⟩

end Go.Proofs.YtnacjogdndggeaaGreatDoor
end
