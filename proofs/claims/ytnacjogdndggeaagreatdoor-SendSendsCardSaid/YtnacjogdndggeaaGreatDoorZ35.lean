/- Layer 3's reference: Plain, Tag, Key. Layer 22's law: Right. Layer 22 (send): All, refused. The references of layers 6 and 8: Same, Ints; the law's like. -/
import Derived.Test.YtnacjogdndggeaaGreatDoorZ06
import Derived.Test.YtnacjogdndggeaaGreatDoorZ09
import Derived.Test.YtnacjogdndggeaaGreatDoorZ32
import Derived.Test.YtnacjogdndggeaaGreatDoorZ34
import Derived.Test.YtnacjogdndggeaaGreatDoorZ31
import Derived.Test.YtnacjogdndggeaaGreatDoorZ07
section
namespace Go.Proofs.YtnacjogdndggeaaGreatDoor
open Go.Shelf Go.RowKit Go.Lib
set_option maxRecDepth 100000
set_option maxHeartbeats 1000000

theorem refPlain_any (l : List UInt8) (w : World) (hl : l.length ≤ 1000) :
    Calls Tryz.prog 62 #[.string (S l)] w fun e w' => e = .returned (.bool (plainF l)) ∧ w = w' := by
  have HP : Hid (plainF l = (decide (l ≠ []) && decide (l.length ≤ 16) && signs l)) := rfl
  have HE : Hid (decide (l ≠ []) = decide (1 ≤ l.length)) := Lib.hid (by cases l <;> simp)
  go_enter Tryz.func62, Tryz.ntmps62
  go_wp2
  go_loop [3] (fun vi => ∃ k : Nat, k ≤ l.length ∧ vi = .int .i64 k ∧ Hid (signs l = signs (l.drop k))) (fun vi => l.length - (intOf vi).toNat)
  case atStart => exact ⟨0, Nat.zero_le _, rfl, Lib.hid (by rw [List.drop_zero])⟩
  case round =>
    obtain ⟨k, hk, rfl, HS⟩ := hrel
    by_cases hlt : k < l.length
    · have hg : (S l)[k]'(by simpa using hlt) = l[k] := rfl
      have hd : Hid (signs (l.drop k) = (signP l[k].toNat && signs (l.drop (k + 1)))) := Lib.hid (by rw [List.drop_eq_getElem_cons hlt]; rfl)
      have D : ∀ n : Nat, decide ((n : Int) ≤ (l[k].toNat : Int)) = decide (n ≤ l[k].toNat) := fun n => by simp
      have E : ∀ n : Nat, decide ((l[k].toNat : Int) ≤ (n : Int)) = decide (l[k].toNat ≤ n) := fun n => by simp
      have d1 := D 97
      have d2 := E 122
      have d3 := D 48
      have d4 := E 57
      clear D E
      by_cases c1 : 97 ≤ l[k].toNat
      · have c3 : 48 ≤ l[k].toNat := by omega
        have c4 : ¬ l[k].toNat ≤ 57 := by omega
        have c5 : ¬ l[k].toNat = 45 := by omega
        have c6 : ((l[k].toNat : Int) != 45) = true := by simp; omega
        rw [decide_eq_true c1] at d1
        rw [decide_eq_true c3] at d3
        rw [decide_eq_false c4] at d4
        by_cases c2 : l[k].toNat ≤ 122
        · rw [decide_eq_true c2] at d2
          go_wp2
          exact ⟨⟨k + 1, hlt, by go_num, Lib.hid (by rw [HS.out, hd.out]; simp [signP, c1, c2])⟩, by simp [intOf]; omega⟩
        · rw [decide_eq_false c2] at d2
          go_wp2
          go_ret
          · exact ⟨ret_bool (by rw [HP.out, HS.out, hd.out]; simp [signP, c1, c2, c3, c4, c5]), rfl⟩
          · exfalso
            rename_i h
            simp at h
            omega
      · rw [decide_eq_false c1] at d1
        by_cases c3 : 48 ≤ l[k].toNat
        · have c5 : ¬ l[k].toNat = 45 := by omega
          have c6 : ((l[k].toNat : Int) != 45) = true := by simp; omega
          rw [decide_eq_true c3] at d3
          by_cases c4 : l[k].toNat ≤ 57
          · rw [decide_eq_true c4] at d4
            go_wp2
            exact ⟨⟨k + 1, hlt, by go_num, Lib.hid (by rw [HS.out, hd.out]; simp [signP, c3, c4])⟩, by simp [intOf]; omega⟩
          · rw [decide_eq_false c4] at d4
            go_wp2
            go_ret
            · exact ⟨ret_bool (by rw [HP.out, HS.out, hd.out]; simp [signP, c1, c3, c4, c5]), rfl⟩
            · exfalso
              rename_i h
              simp at h
              omega
        · rw [decide_eq_false c3] at d3
          by_cases c5 : l[k].toNat = 45
          · have c6 : ((l[k].toNat : Int) != 45) = false := by simp [c5]
            go_wp2
            exact ⟨⟨k + 1, hlt, by go_num, Lib.hid (by rw [HS.out, hd.out]; simp [signP, c5])⟩, by simp [intOf]; omega⟩
          · have c6 : ((l[k].toNat : Int) != 45) = true := by simp; omega
            go_wp2
            go_ret
            exact ⟨ret_bool (by rw [HP.out, HS.out, hd.out]; simp [signP, c1, c3, c5]), rfl⟩
    · have hkn : k = l.length := by omega
      subst hkn
      have HSE : Hid (signs l = true) := Lib.hid (by rw [HS.out, List.drop_length]; rfl)
      by_cases e1 : 1 ≤ l.length
      · by_cases e2 : l.length ≤ 16
        · have hb : decide ((l.length : Int) ≤ 16) = true := decide_eq_true (by omega)
          have hb1 : decide ((1 : Int) ≤ l.length) = true := decide_eq_true (by omega)
          go_wp2
          go_ret
          exact ⟨ret_bool (by rw [HP.out, HE.out, HSE.out]; simp [e1, e2]), rfl⟩
        · have hb : decide ((l.length : Int) ≤ 16) = false := decide_eq_false (by omega)
          have hb1 : decide ((1 : Int) ≤ l.length) = true := decide_eq_true (by omega)
          go_wp2
          go_ret
          exact ⟨ret_bool (by rw [HP.out, HE.out, HSE.out]; simp [e1, e2]), rfl⟩
      · have hb1 : decide ((1 : Int) ≤ l.length) = false := decide_eq_false (by omega)
        go_wp2
        go_ret
        exact ⟨ret_bool (by rw [HP.out, HE.out, HSE.out]; simp [e1]), rfl⟩

theorem refTag_any (l : List UInt8) (w : World) (hl : l.length ≤ 1000) :
    Calls Tryz.prog 25 #[.string (S l)] w fun e w' => e = .returned (.bool (tagF l)) ∧ w = w' := by
  have HT : Hid (tagF l = (decide (l = []) || plainF l)) := rfl
  by_cases h0 : l = []
  · subst h0
    go_enter Tryz.func25, Tryz.ntmps25
    go_wp2
    go_ret
    exact ⟨rfl, rfl⟩
  · have hc := refPlain_any l w hl
    go_enter Tryz.func25, Tryz.ntmps25
    go_wp2_with (fail)
    refine hc.mono ?_
    rintro e w' ⟨rfl, rfl⟩
    clear hc
    go_wp2
    go_ret
    exact ⟨ret_bool (by rw [HT.out]; simp [h0]), rfl⟩

theorem refKey_any (l : List UInt8) (w : World) (hl : l.length ≤ 1000) :
    Calls Tryz.prog 26 #[.string (S l)] w fun e w' => e = .returned (.bool (keyF l)) ∧ w = w' := by
  have HP : Hid (keyF l = (decide (l ≠ []) && decide (l.length ≤ 16) && keySigns l)) := rfl
  have HE : Hid (decide (l ≠ []) = decide (1 ≤ l.length)) := Lib.hid (by cases l <;> simp)
  go_enter Tryz.func26, Tryz.ntmps26
  go_wp2
  go_loop [3] (fun vi => ∃ k : Nat, k ≤ l.length ∧ vi = .int .i64 k ∧ Hid (keySigns l = keySigns (l.drop k))) (fun vi => l.length - (intOf vi).toNat)
  case atStart => exact ⟨0, Nat.zero_le _, rfl, Lib.hid (by rw [List.drop_zero])⟩
  case round =>
    obtain ⟨k, hk, rfl, HS⟩ := hrel
    by_cases hlt : k < l.length
    · have hg : (S l)[k]'(by simpa using hlt) = l[k] := rfl
      have hd : Hid (keySigns (l.drop k) = (!(decide (l[k].toNat < 33) || decide (126 < l[k].toNat)) && keySigns (l.drop (k + 1)))) := Lib.hid (by rw [List.drop_eq_getElem_cons hlt]; rfl)
      by_cases c1 : l[k].toNat < 33
      · go_wp2
        go_ret
        exact ⟨ret_bool (by rw [HP.out, HS.out, hd.out]; simp [c1]), rfl⟩
      · by_cases c2 : 126 < l[k].toNat
        · go_wp2
          go_ret
          exact ⟨ret_bool (by rw [HP.out, HS.out, hd.out]; simp [c2]), rfl⟩
        · go_wp2
          exact ⟨⟨k + 1, hlt, by go_num, Lib.hid (by rw [HS.out, hd.out]; simp [c1, c2])⟩, by simp [intOf]; omega⟩
    · have hkn : k = l.length := by omega
      subst hkn
      have HSE : Hid (keySigns l = true) := Lib.hid (by rw [HS.out, List.drop_length]; rfl)
      by_cases e1 : 1 ≤ l.length
      · by_cases e2 : l.length ≤ 16
        · have hb : decide ((l.length : Int) ≤ 16) = true := decide_eq_true (by omega)
          have hb1 : decide ((1 : Int) ≤ l.length) = true := decide_eq_true (by omega)
          go_wp2
          go_ret
          exact ⟨ret_bool (by rw [HP.out, HE.out, HSE.out]; simp [e1, e2]), rfl⟩
        · have hb : decide ((l.length : Int) ≤ 16) = false := decide_eq_false (by omega)
          have hb1 : decide ((1 : Int) ≤ l.length) = true := decide_eq_true (by omega)
          go_wp2
          go_ret
          exact ⟨ret_bool (by rw [HP.out, HE.out, HSE.out]; simp [e1, e2]), rfl⟩
      · have hb1 : decide ((1 : Int) ≤ l.length) = false := decide_eq_false (by omega)
        go_wp2
        go_ret
        exact ⟨ret_bool (by rw [HP.out, HE.out, HSE.out]; simp [e1]), rfl⟩

end Go.Proofs.YtnacjogdndggeaaGreatDoor
end

section
namespace Go.Proofs.YtnacjogdndggeaaGreatDoor
open Go.Shelf Go.RowKit Go.Lib
set_option maxRecDepth 100000
set_option maxHeartbeats 4000000

theorem topQ (t : List UInt8) : ((aget (aput Lit.string tpC 2 (aput Lit.string tpB 3 (aput Lit.string tpA 1 []))) t).getD 0 : Nat) = queuesL topL t := by
  rw [aget_aput, aget_aput, aget_aput]
  unfold queuesL topL
  by_cases hA : t = tpA
  · subst hA; rfl
  by_cases hB : t = tpB
  · subst hB; rfl
  by_cases hC : t = tpC
  · subst hC; rfl
  rw [if_neg hC, if_neg hB, if_neg hA]
  have h1 : ¬ tpA = t := fun h => hA h.symm
  have h2 : ¬ tpB = t := fun h => hB h.symm
  have h3 : ¬ tpC = t := fun h => hC h.symm
  simp [h1, h2, h3, aget]

theorem topMap (w1 : World) (t : List UInt8) (ht : t.length ≤ 1000) : ∃ w3 w4 w5, (Instr.mapUpdate 81 (.map (some w1.heap.size)) (.string (S tpA)) (.int .i64 1)).run Tryz.prog (w1.alloc (.map #[] 0)) = .ok () w3 ∧ (Instr.mapUpdate 81 (.map (some w1.heap.size)) (.string (S tpB)) (.int .i64 3)).run Tryz.prog w3 = .ok () w4 ∧
    (Instr.mapUpdate 81 (.map (some w1.heap.size)) (.string (S tpC)) (.int .i64 2)).run Tryz.prog w4 = .ok () w5 ∧ (Instr.lookup 81 (.map (some w1.heap.size)) (.string (S t)) false).run Tryz.prog w5 = .ok (.int .i64 (queuesL topL t : Int)) w5 ∧ Below w1.heap.size w1 w5 := by
  have hK : ∀ s : List UInt8, s.length ≤ 1000 → keyOf Tryz.prog 9 (.string (S s)) = some (Lit.string s) := fun s hs => by
    have := Go.WideMaps.keyOf_string_mk (P := Tryz.prog) Tryz.underlying9 (s := S s) (by rw [show (S s).size = s.length by simp]; unfold maxLen; omega)
    rw [S_data] at this
    exact this
  have hE : ∀ n : Nat, n ≤ 100 → plainElem (H := Unit) Tryz.prog 3 (.int .i64 (n : Int)) = some (.lit (.int .i64 (n : Int)), []) := fun n hn => plainElem_int (H := Unit) Tryz.underlying3 (i64_wf (by omega) (by omega))
  have h0 := World.ownsMap_made (H := Unit) w1 Tryz.prog 9 (plainElem Tryz.prog 3)
  obtain ⟨w3, r3, o3, g3⟩ := h0.update (Go.Maps.string_keyed Tryz.underlying9) Tryz.underlying81 (by unfold maxLen; omega) (hK tpA (by decide)) (hE 1 (by omega))
  obtain ⟨w4, r4, o4, g4⟩ := o3.update (Go.Maps.string_keyed Tryz.underlying9) Tryz.underlying81 (by unfold maxLen; omega) (hK tpB (by decide)) (hE 3 (by omega))
  obtain ⟨w5, r5, o5, g5⟩ := o4.update (Go.Maps.string_keyed Tryz.underlying9) Tryz.underlying81 (by unfold maxLen; omega) (hK tpC (by decide)) (hE 2 (by omega))
  refine ⟨w3, w4, w5, r3, r4, r5, ?_, ?_⟩
  · obtain ⟨v, ps, hrun, hv⟩ := o5.lookup (Go.Maps.string_keyed Tryz.underlying9) Tryz.underlying81 (Tryz.zeroValue3 w5) (zd := .lit (.int .i64 0)) (zp := []) (plainElem_int Tryz.underlying3 (by decide)) (hK t ht)
    rw [hrun]
    have hp := fun (k : List UInt8) (n : Nat) (l : List (List UInt8 × Nat)) => amap_put kfS (f := fun _ (n : Nat) => (.lit (.int .i64 (n : Int)) : DataW Unit)) k n l
    have ha := amap_atKey (f := fun _ (n : Nat) => (.lit (.int .i64 (n : Int)) : DataW Unit)) kfS t (.lit (.int .i64 0)) (aput Lit.string tpC 2 (aput Lit.string tpB 3 (aput Lit.string tpA 1 [])))
    rw [← hp, ← hp, ← hp] at ha
    rw [show (((((DataW.map [] : DataW Unit).put (Lit.string tpA) (.lit (.int .i64 ((1 : Nat) : Int)))).put (Lit.string tpB) (.lit (.int .i64 ((3 : Nat) : Int)))).put (Lit.string tpC) (.lit (.int .i64 ((2 : Nat) : Int)))).atKey (Lit.string t) (.lit (.int .i64 0))) = .lit (.int .i64 (((aget (aput Lit.string tpC 2 (aput Lit.string tpB 3 (aput Lit.string tpA 1 []))) t).getD 0 : Nat) : Int)) from ha.trans (by cases aget (aput Lit.string tpC 2 (aput Lit.string tpB 3 (aput Lit.string tpA 1 []))) t <;> rfl)] at hv
    obtain ⟨a, rfl, hy, _⟩ := plainElem_int_inv Tryz.underlying3 hv
    have h2 := congrArg Prod.fst hy
    dsimp only at h2
    injection h2 with h2
    injection h2 with _ h2
    rw [← h2, topQ]
  · have hb := (Below.refl w1.heap.size w1).alloc (Nat.le_refl _) (.map #[] 0)
    have hb3 := hb.grown g3 hb.size (fun k e => by injection e with e; omega)
    have hb4 := hb3.grown g4 hb3.size (fun k e => by injection e with e; omega)
    exact hb4.grown g5 hb4.size (fun k e => by injection e with e; omega)

/-- Why it may not be sent, as the law says it. -/
def rightW (x : WantR) : Int :=
  if queuesL topL x.topic = 0 then 12 else if x.queue < 0 ∨ (queuesL topL x.topic : Int) ≤ x.queue then 13
  else if (tagF x.tag && keysF x.keys) = false then 11 else if 3 < x.keys.length ∨ 200 < x.body.length then 6 else if x.keys.Nodup then 0 else 10
theorem rightW_eq (x : WantR) : rightW x = sendE topL x := by
  have h0 : (ofF x.topic).2 = true → queuesL topL x.topic = 0 := fun h => by
    by_cases hA : x.topic = tpA
    · rw [hA] at h; exact absurd h (by rw [show (ofF tpA).2 = false by kernel_rfl]; decide)
    by_cases hB : x.topic = tpB
    · rw [hB] at h; exact absurd h (by rw [show (ofF tpB).2 = false by kernel_rfl]; decide)
    by_cases hC : x.topic = tpC
    · rw [hC] at h; exact absurd h (by rw [show (ofF tpC).2 = false by kernel_rfl]; decide)
    have h1 : ¬ tpA = x.topic := fun h => hA h.symm
    have h2 : ¬ tpB = x.topic := fun h => hB h.symm
    have h3 : ¬ tpC = x.topic := fun h => hC h.symm
    unfold queuesL topL
    simp [h1, h2, h3]
  unfold rightW sendE checkL
  by_cases hq : queuesL topL x.topic = 0
  · by_cases ho : (ofF x.topic).2 = true <;> simp [hq, ho]
  · have ho : (ofF x.topic).2 = false := by
      cases h : (ofF x.topic).2
      · rfl
      · exact absurd (h0 h) hq
    by_cases hw : x.queue < 0 ∨ (queuesL topL x.topic : Int) ≤ x.queue
    · simp [hq, ho, hw]
    · cases ht : tagF x.tag
      · simp [hq, ho, hw]
      · cases hk : keysF x.keys
        · simp [hq, ho, hw]
        · by_cases h3 : 3 < x.keys.length
          · simp [hq, ho, hw, h3]
          · by_cases h2 : 200 < x.body.length
            · simp [hq, ho, hw, h3, h2]
            · simp [hq, ho, hw, h3, h2]

theorem keysF_take {l : List (List UInt8)} {k : Nat} (h : k < l.length) : keysF (l.take (k + 1)) = (keysF (l.take k) && keyF l[k]) := by
  unfold keysF
  rw [List.take_succ_eq_append_getElem h, List.all_append]
  simp
theorem nodup_take {l : List (List UInt8)} {k : Nat} (h : k < l.length) : decide (l.take (k + 1)).Nodup = (decide (l.take k).Nodup && decide (¬ l[k] ∈ l.take k)) := by
  rw [List.take_succ_eq_append_getElem h, Bool.eq_iff_iff]
  simp only [Bool.and_eq_true, decide_eq_true_eq, List.nodup_append]
  constructor
  · rintro ⟨h1, _, h3⟩
    exact ⟨h1, fun hm => h3 _ hm _ (List.mem_singleton.2 rfl) rfl⟩
  · rintro ⟨h1, h2⟩
    exact ⟨h1, by simp, fun a ha b hb e => by rw [List.mem_singleton] at hb; subst hb; subst e; exact h2 ha⟩
theorem mem_take_succ {l : List (List UInt8)} {y : List UInt8} {j : Nat} (h : j < l.length) : decide (¬ y ∈ l.take (j + 1)) = (decide (¬ y ∈ l.take j) && decide (¬ l.getD j [] = y)) := by
  rw [show l.getD j [] = l[j] by rw [List.getD_eq_getElem?_getD, List.getElem?_eq_getElem h]; rfl]
  rw [List.take_succ_eq_append_getElem h, Bool.eq_iff_iff]
  simp only [Bool.and_eq_true, decide_eq_true_eq, List.mem_append, List.mem_singleton, not_or]
  exact ⟨fun ⟨a, b⟩ => ⟨a, fun e => b e.symm⟩, fun ⟨a, b⟩ => ⟨a, fun e => b e.symm⟩⟩

theorem Right_any (x : WantR) (A : Option Addr) (c : Nat) (w : World) (hr : RSa w A x.keys) (hcap : x.keys.length ≤ c) (hg : greatW x = false) :
    Calls Tryz.prog 9 #[.agg (wantV x A c)] w fun e w' => e = .returned (.int .i64 (rightW x)) ∧ Below w.heap.size w w' := by
  obtain ⟨topic, queue, tag, keys, body⟩ := x
  simp only at hr hcap
  have hb := (Below.refl w.heap.size w).alloc (Nat.le_refl _) (.cells (wantV ⟨topic, queue, tag, keys, body⟩ A c) 33)
  have hlens : topic.length ≤ 100 ∧ tag.length ≤ 100 ∧ keys.length ≤ 10 ∧ ∀ k ∈ keys, k.length ≤ 100 := by
    unfold greatW bigW at hg
    simp at hg
    obtain ⟨⟨h1, h2, h3, _⟩, h5⟩ := hg
    exact ⟨h1, h2, h3, h5⟩
  obtain ⟨hl1, hl2, hl3, hl4⟩ := hlens
  obtain ⟨w3, w4, w5, r3, r4, r5, rl, hb5⟩ := topMap (w.alloc (.cells (wantV ⟨topic, queue, tag, keys, body⟩ A c) 33)) topic (by omega)
  have HB := Lib.hid (hb.trans (hb5.mono hb.size))
  have HM := Lib.hid ((Blk.new w (wantV ⟨topic, queue, tag, keys, body⟩ A c) 33).below hb5)
  have HK := Lib.hid ((hr.below hb).below hb5)
  have HR : Hid (rightW ⟨topic, queue, tag, keys, body⟩ = if queuesL topL topic = 0 then 12 else if queue < 0 ∨ (queuesL topL topic : Int) ≤ queue then 13 else if (tagF tag && keysF keys) = false then 11 else if 3 < keys.length ∨ 200 < body.length then 6 else if keys.Nodup then 0 else 10) := rfl
  generalize rightW ⟨topic, queue, tag, keys, body⟩ = RW at *
  have HL4 := Lib.hid hl4
  have HTg := Lib.hid (refTag_any tag w5 (by omega))
  have hmm := @run_makeMap Tryz.prog
  generalize queuesL topL topic = q at *
  rw [show (w.alloc (.cells (wantV ⟨topic, queue, tag, keys, body⟩ A c) 33)).heap.size = w.heap.size + 1 by simp] at *
  clear hr hb hb5 hg hl4
  have e0 := HM.out.cell 0
  have e1 := HM.out.cell 1
  have e2 := HM.out.cell 2
  have e3 := HM.out.cell 3
  have e4 := HM.out.cell 4
  simp only [wantV] at *
  rw [show S tpA = ⟨#[97]⟩ from rfl] at r3
  rw [show S tpB = ⟨#[98]⟩ from rfl] at r4
  rw [show S tpC = ⟨#[108, 111, 110, 103, 45, 116, 111, 112, 105, 99, 45, 110, 97, 109, 101, 49]⟩ from rfl] at r5
  go_enter Tryz.func9, Tryz.ntmps9
  go_upto_region 2 with (fail)
  clear r3 r4 r5 rl hmm
  have hTg := HTg.out
  go_wp2_with (fail)
  refine hTg.mono ?_
  rintro e w' ⟨rfl, rfl⟩
  clear hTg HTg
  generalize tagF tag = tg at *
  go_upto_region 5 with (fail)
  go_loop [4, 5, 21] (fun vn vu vi => ∃ k : Nat, k ≤ keys.length ∧ vn = .bool (tg && keysF (keys.take k)) ∧ vu = .bool (decide (keys.take k).Nodup) ∧ vi = .int .i64 k) (fun _ _ vi => keys.length - (intOf vi).toNat)
  case atStart => exact ⟨0, Nat.zero_le _, by simp [keysF], by simp, rfl⟩
  case round =>
    obtain ⟨k, hk, rfl, rfl, rfl⟩ := hrel
    by_cases hlt : k < keys.length
    · obtain ⟨b, o, rfl, hc⟩ := HK.out k hlt
      have HKF := Lib.hid (keysF_take hlt)
      have HNF := Lib.hid (nodup_take hlt)
      have hyl := HL4.out _ (List.getElem_mem hlt)
      rw [show keys.getD k [] = keys[k] by rw [List.getD_eq_getElem?_getD, List.getElem?_eq_getElem hlt]; rfl] at hc
      generalize keys[k] = y at *
      have hKy := refKey_any y w5 (by omega)
      have hkc : k ≤ c := by omega
      generalize decide (keys.take k).Nodup = nd at *
      have HKl : Hid ((keys.take k).length = k) := Lib.hid (by rw [List.length_take]; omega)
      have HKJ := Lib.hid (fun j (hj : j < k) => mem_take_succ (y := y) (l := keys.take k) (j := j) (by rw [HKl.out]; exact hj))
      have HKE : Hid (∀ j, j < k → w5.cell? ⟨b, o + j, none⟩ = some (.string (S ((keys.take k).getD j [])))) := Lib.hid fun j hj => by
        obtain ⟨b2, o2, e2, h2⟩ := HK.out j (by omega)
        injection e2 with e2
        injection e2 with e2 e3
        subst e2 e3
        rw [h2, List.getD_eq_getElem?_getD, List.getD_eq_getElem?_getD, List.getElem?_take_of_lt hj]
      have hkc2 : (k : Int) ≤ (c : Int) := by omega
      have hk0 : (0 : Int) ≤ (k : Int) := by omega
      have HN1 := Lib.hid (show (tg && keysF (keys.take (k + 1))) = ((tg && keysF (keys.take k)) && keyF y) by rw [HKF.out, Bool.and_assoc])
      clear HKF
      generalize (tg && keysF (keys.take k)) = nn at *
      generalize keyF y = ky at *
      have HNX := Lib.hid (show (nd && decide (¬ y ∈ keys.take k)) = decide (keys.take (k + 1)).Nodup from HNF.out.symm)
      clear HNF
      generalize keys.take k = ys at *
      have HT := Lib.hid (show ys.take k = ys by rw [← HKl.out, List.take_length])
      clear HKl
      cases nn <;> (
        first
        | (go_wp2_with (fail)
           refine hKy.mono ?_
           rintro e w' ⟨rfl, rfl⟩
           clear hKy
           go_upto_region 9 with (fail))
        | (go_upto_region 9 with (fail))
        go_loop [5, 36] (fun vu vi => ∃ j : Nat, j ≤ k ∧ vu = .bool (nd && decide (¬ y ∈ ys.take j)) ∧ vi = .int .i64 j) (fun _ vi => k - (intOf vi).toNat)
        case atStart => exact ⟨0, Nat.zero_le _, by simp, rfl⟩
        case round =>
          obtain ⟨j, hj, rfl, rfl⟩ := hrel
          by_cases hlj : j < k
          · have hcj := HKE.out j hlj
            have HI := Lib.hid (HKJ.out j hlj)
            generalize ys.getD j [] = z at *
            by_cases he : z = y
            · subst he
              have HV := Lib.hid (show (nd && decide (¬ z ∈ ys.take (j + 1))) = false by rw [HI.out]; simp)
              clear HI
              generalize (nd && decide (¬ z ∈ ys.take j)) = u at *
              cases u <;> (
                go_wp2
                exact ⟨⟨j + 1, hlj, by rw [HV.out], by go_num⟩, by simp [intOf]; omega⟩)
            · have q1 : (z == y) = false := by simpa using he
              have q2 : (z != y) = true := by simpa using he
              have HV := Lib.hid (show (nd && decide (¬ y ∈ ys.take (j + 1))) = (nd && decide (¬ y ∈ ys.take j)) by rw [HI.out]; simp [he])
              clear he HI
              generalize (nd && decide (¬ y ∈ ys.take j)) = u at *
              cases u <;> (
                go_wp2
                exact ⟨⟨j + 1, hlj, by rw [HV.out], by go_num⟩, by simp [intOf]; omega⟩)
          · have hjk : j = k := by omega
            subst hjk
            rw [HT.out, HNX.out]
            go_wp2
            exact ⟨⟨j + 1, hlt, by rw [HN1.out]; simp, rfl, by go_num⟩, by simp [intOf]; omega⟩)
    · have hkn : k = keys.length := by omega
      subst hkn
      rw [List.take_length]
      have hR := HR.out
      clear HR
      rw [show (if keys.Nodup then (0 : Int) else 10) = if (decide keys.Nodup) = true then 0 else 10 by by_cases h : keys.Nodup <;> simp [h]] at hR
      generalize decide keys.Nodup = nd at *
      generalize (tg && keysF keys) = nn at *
      by_cases hq : q = 0
      · rw [if_pos hq] at hR
        subst hq
        have HX := Lib.hid hR
        clear hR
        go_wp2
        go_ret
        exact ⟨ret_int HX.out.symm, HB.out⟩
      rw [if_neg hq] at hR
      have hqb : ((q : Int) == 0) = false := beq_eq_false_iff_ne.2 (by omega)
      by_cases h1 : queue < 0
      · have d1 : decide (queue < 0) = true := decide_eq_true h1
        have HX := Lib.hid (show RW = 13 by rw [hR, if_pos (.inl h1)])
        clear hR
        go_wp2
        go_ret
        exact ⟨ret_int HX.out.symm, HB.out⟩
      have d1 : decide (queue < 0) = false := decide_eq_false h1
      by_cases h2 : (q : Int) ≤ queue
      · have d2 : decide ((q : Int) ≤ queue) = true := decide_eq_true h2
        have HX := Lib.hid (show RW = 13 by rw [hR, if_pos (.inr h2)])
        clear hR
        go_wp2
        go_ret
        exact ⟨ret_int HX.out.symm, HB.out⟩
      have d2 : decide ((q : Int) ≤ queue) = false := decide_eq_false h2
      rw [if_neg (by rintro (h | h); exact h1 h; exact h2 h)] at hR
      cases nn with
      | false =>
        rw [if_pos rfl] at hR
        have HX := Lib.hid hR
        clear hR
        go_wp2
        go_ret
        exact ⟨ret_int HX.out.symm, HB.out⟩
      | true =>
        rw [if_neg (by decide)] at hR
        by_cases h3 : 3 < keys.length
        · have d3 : decide ((3 : Int) < (keys.length : Int)) = true := decide_eq_true (by omega)
          have HX := Lib.hid (show RW = 6 by rw [hR, if_pos (.inl h3)])
          clear hR
          go_wp2
          go_ret
          exact ⟨ret_int HX.out.symm, HB.out⟩
        have d3 : decide ((3 : Int) < (keys.length : Int)) = false := decide_eq_false (by omega)
        by_cases h4 : 200 < body.length
        · have d4 : decide ((200 : Int) < (body.length : Int)) = true := decide_eq_true (by omega)
          have HX := Lib.hid (show RW = 6 by rw [hR, if_pos (.inr h4)])
          clear hR
          go_wp2
          go_ret
          exact ⟨ret_int HX.out.symm, HB.out⟩
        have d4 : decide ((200 : Int) < (body.length : Int)) = false := decide_eq_false (by omega)
        rw [if_neg (by rintro (h | h); exact h3 h; exact h4 h)] at hR
        cases nd with
        | false =>
          rw [if_neg (by decide)] at hR
          have HX := Lib.hid hR
          clear hR
          go_wp2
          go_ret
          exact ⟨ret_int HX.out.symm, HB.out⟩
        | true =>
          rw [if_pos rfl] at hR
          have HX := Lib.hid hR
          clear hR
          go_wp2
          go_ret
          exact ⟨ret_int HX.out.symm, HB.out⟩

end Go.Proofs.YtnacjogdndggeaaGreatDoor
end

section
namespace Go.Proofs.YtnacjogdndggeaaGreatDoor
open Go.Shelf Go.RowKit Go.Lib
set_option maxRecDepth 100000
set_option maxHeartbeats 2000000

theorem Check_nil (x : WantR) (A : Option Addr) (c : Nat) (w : World) :
    Calls Tryz.prog 17 #[.pointer none, .agg (wantV x A c)] w fun e w' => e = .returned (.int .i64 1) ∧ Below w.heap.size w w' := by
  have HB := Lib.hid ((Below.refl w.heap.size w).alloc (Nat.le_refl _) (.cells (wantV x A c) 33))
  simp only [wantV] at *
  go_enter Tryz.func17, Tryz.ntmps17
  go_wp2
  go_ret
  exact ⟨rfl, HB.out⟩

theorem All_nil (A : Option Addr) (c : Nat) (x : WantR) (w : World) (h : WsA w A [x]) (b : Bool) :
    Calls Tryz.prog 10 #[.pointer none, .bool b, .slice A 1 c] w fun e w' => e = .returned (.tuple #[.slice none 0 0, .int .i64 1]) ∧ Below w.heap.size w w' := by
  obtain ⟨bb, o, Aj, cj, rfl, ⟨h0, h1, h2, h3, h4⟩, hr, hcj⟩ := h 0 (by simp)
  simp only [List.getElem_cons_zero, Nat.zero_mul, Nat.add_zero] at h0 h1 h2 h3 h4
  have HB2 := Lib.hid ((Below.refl w.heap.size w).alloc (Nat.le_refl _) (.cells (wantV x Aj cj) 33))
  have HM2 := Lib.hid (Blk.new w (wantV x Aj cj) 33)
  have hCk := Check_nil x Aj cj (w.alloc (.cells (wantV x Aj cj) 33))
  simp only [wantV] at *
  clear hr
  go_enter Tryz.func10, Tryz.ntmps10
  go_upto_region 2 with (fail)
  refine wp_loop_rounds 1 ?_
  rw [rounds_succ]
  go_upto_region 4 with (fail)
  generalize w.alloc (.cells #[.string (S x.topic), .int .i64 x.queue, .string (S x.tag), .slice Aj x.keys.length cj, .string (S x.body)] 33) = w1 at *
  clear h0 h1 h2 h3 h4
  have m0 := HM2.out.cell 0
  have m1 := HM2.out.cell 1
  have m2 := HM2.out.cell 2
  have m3 := HM2.out.cell 3
  have m4 := HM2.out.cell 4
  go_wp2_with (fail)
  refine hCk.mono ?_
  rintro e w2 ⟨rfl, hb⟩
  go_wp2
  go_ret2
  exact ⟨rfl, HB2.out.trans (hb.mono HB2.out.size)⟩

/-- The first reason why one of many may not be sent; 0: all may. -/
def allE (L : Tops) (l : List WantR) : Int := l.foldr (fun x r => if sendE L x = 0 then r else sendE L x) 0
theorem allE_step {L : Tops} {l : List WantR} {k : Nat} (h : k < l.length) : allE L (l.drop k) = if sendE L l[k] = 0 then allE L (l.drop (k + 1)) else sendE L l[k] := by
  rw [List.drop_eq_getElem_cons h]
  rfl
theorem allE_zero {L : Tops} {l : List WantR} (h : allE L l = 0) : ∀ x ∈ l, sendE L x = 0 := by
  induction l with
  | nil => intro x hx; cases hx
  | cons y r ih =>
    have e : allE L (y :: r) = if sendE L y = 0 then allE L r else sendE L y := rfl
    rw [e] at h
    by_cases hy : sendE L y = 0
    · rw [if_pos hy] at h
      intro x hx
      rcases List.mem_cons.1 hx with rfl | hx
      · exact hy
      · exact ih h x hx
    · rw [if_neg hy] at h
      exact absurd h hy

section
variable {χ : Col} {w : World} {s c : Nat} {a : SAddr} {now : Int} {T : TapeM} {L : Tops} {Pd : Pends} {D : Dsk} {A : Option Addr} {l : List WantR}

theorem All_bad (hC : Core χ w s a now T L Pd D) (hW : WsA w A l) (hk : ∀ x ∈ l, x.keys.length ≤ 1000) (hl : L.length ≤ 1000) (hll : l.length ≤ 1000) (hE : allE L l ≠ 0) (b : Bool) :
    Calls Tryz.prog 10 #[ptr s, .bool b, .slice A l.length c] w fun e w' => e = .returned (.tuple #[.slice none 0 0, .int .i64 (allE L l)]) ∧ Below w.heap.size w w' := by
  have HC := Lib.hid hC
  have HW := Lib.hid hW
  have HK := Lib.hid hk
  have HE := Lib.hid hE
  have HB := Lib.hid (Below.refl w.heap.size w)
  clear hC hW hk hE
  unfold ptr at *
  go_enter Tryz.func10, Tryz.ntmps10
  go_upto_region 2 with (fail)
  go_loopw [18] (fun vi wr => ∃ k : Nat, k ≤ l.length ∧ vi = .int .i64 k ∧ Hid (allE L l = allE L (l.drop k)) ∧ Hid (Below w.heap.size w wr)) (fun vi _ => l.length - (intOf vi).toNat)
  case atStart => exact ⟨0, Nat.zero_le _, rfl, Lib.hid (by rw [List.drop_zero]), HB⟩
  case round =>
    clear HB
    obtain ⟨k, hk, rfl, HS, HB⟩ := hrel
    by_cases hlt : k < l.length
    · obtain ⟨bb, o, Aj, cj, rfl, ⟨h0, h1, h2, h3, h4⟩, hr, hcj⟩ := HW.out.below HB.out k hlt
      have HD := Lib.hid (allE_step (L := L) hlt)
      have hkx := HK.out _ (List.getElem_mem hlt)
      generalize l[k] = x at *
      have hB2 := (Below.refl wr.heap.size wr).alloc (Nat.le_refl _) (.cells (wantV x Aj cj) 33)
      have HB2 := Lib.hid (HB.out.trans (hB2.mono HB.out.size))
      have HM2 := Lib.hid (Blk.new wr (wantV x Aj cj) 33)
      have hCk := Check_any (c := cj) (HC.out.below HB2.out) (hr.below hB2) hkx hl
      have HV : Hid (wantV x Aj cj = #[.string (S x.topic), .int .i64 x.queue, .string (S x.tag), .slice Aj x.keys.length cj, .string (S x.body)]) := rfl
      clear hr hB2
      unfold ptr at *
      simp only [HV.out] at *
      go_upto_region 4 with (fail)
      generalize wr.alloc (.cells #[.string (S x.topic), .int .i64 x.queue, .string (S x.tag), .slice Aj x.keys.length cj, .string (S x.body)] 33) = w1 at *
      clear h0 h1 h2 h3 h4
      have m0 := HM2.out.cell 0
      have m1 := HM2.out.cell 1
      have m2 := HM2.out.cell 2
      have m3 := HM2.out.cell 3
      have m4 := HM2.out.cell 4
      by_cases he : sendE L x = 0
      · have HD2 := Lib.hid (show allE L l = allE L (l.drop (k + 1)) by rw [HS.out, HD.out, if_pos he])
        rw [he] at hCk
        go_wp2_with (fail)
        refine hCk.mono ?_
        rintro e w2 ⟨rfl, hb⟩
        have HB3 := Lib.hid (HB2.out.trans (hb.mono HB2.out.size))
        go_wp2
        exact ⟨⟨k + 1, hlt, by go_num, HD2, HB3⟩, by simp [intOf]; omega⟩
      · have HD2 := Lib.hid (show allE L l = sendE L x by rw [HS.out, HD.out, if_neg he])
        have heb : (sendE L x != 0) = true := by simpa using he
        generalize sendE L x = E at *
        go_wp2_with (fail)
        refine hCk.mono ?_
        rintro e w2 ⟨rfl, hb⟩
        have HB3 := Lib.hid (HB2.out.trans (hb.mono HB2.out.size))
        clear hCk
        go_wp2_with (fail)
        go_ret2
        exact ⟨by rw [HD2.out]; rfl, HB3.out⟩
    · exfalso
      have hkn : k = l.length := by omega
      subst hkn
      refine HE.out ?_
      rw [HS.out, List.drop_length]
      rfl
end

end Go.Proofs.YtnacjogdndggeaaGreatDoor
end

section
namespace Go.Proofs.YtnacjogdndggeaaGreatDoor
open Go.Shelf Go.RowKit Go.Lib
set_option maxRecDepth 100000
set_option maxHeartbeats 2000000

theorem same6_one (m : Rec) (A A' : Option Addr) (c c' : Nat) (w : World) (h : RSa w A m.keys) (h' : RSa w A' m.keys) (hl : m.keys.length ≤ 1000) :
    Calls Tryz.prog 33 #[.agg (recV m A c), .agg (recV m A' c')] w fun e w' => e = .returned (.bool true) ∧ Below w.heap.size w w' := by
  obtain ⟨kind, queue, due, retry, ref, born, topic, tag, body, keys⟩ := m
  simp only at h h' hl
  have hB1 := (Below.refl w.heap.size w).alloc (Nat.le_refl _) (.cells (recV ⟨kind, queue, due, retry, ref, born, topic, tag, body, keys⟩ A c) 56)
  have hB2 := hB1.alloc hB1.size (.cells (recV ⟨kind, queue, due, retry, ref, born, topic, tag, body, keys⟩ A' c') 56)
  have HB2 := Lib.hid hB2
  have HX := Lib.hid ((Blk.new w (recV ⟨kind, queue, due, retry, ref, born, topic, tag, body, keys⟩ A c) 56).alloc (.cells (recV ⟨kind, queue, due, retry, ref, born, topic, tag, body, keys⟩ A' c') 56))
  have HY := Lib.hid (Blk.new (w.alloc (.cells (recV ⟨kind, queue, due, retry, ref, born, topic, tag, body, keys⟩ A c) 56)) (recV ⟨kind, queue, due, retry, ref, born, topic, tag, body, keys⟩ A' c') 56)
  have hS := fun (W : World) (h : RSa W A keys) (h' : RSa W A' keys) => same_any (.slice A keys.length c) (.slice A' keys.length c') keys keys W ⟨A, c, rfl, h⟩ ⟨A', c', rfl, h'⟩ (by unfold maxLen; omega)
  have hS2 := hS _ (h.below hB2) (h'.below hB2)
  rw [decide_eq_true rfl] at hS2
  clear hS h h' hB1 hB2
  rw [show (w.alloc (.cells (recV ⟨kind, queue, due, retry, ref, born, topic, tag, body, keys⟩ A c) 56)).heap.size = w.heap.size + 1 by simp] at HY
  simp only [recV] at *
  go_enter Tryz.func33, Tryz.ntmps33
  have x0 := HX.out.cell 0
  have x1 := HX.out.cell 1
  have x2 := HX.out.cell 2
  have x3 := HX.out.cell 3
  have x4 := HX.out.cell 4
  have x5 := HX.out.cell 5
  have x6 := HX.out.cell 6
  have x7 := HX.out.cell 7
  have x8 := HX.out.cell 8
  have x9 := HX.out.cell 9
  have y0 := HY.out.cell 0
  have y1 := HY.out.cell 1
  have y2 := HY.out.cell 2
  have y3 := HY.out.cell 3
  have y4 := HY.out.cell 4
  have y5 := HY.out.cell 5
  have y6 := HY.out.cell 6
  have y7 := HY.out.cell 7
  have y8 := HY.out.cell 8
  have y9 := HY.out.cell 9
  go_wp2_with (fail)
  refine hS2.mono ?_
  rintro e w3 ⟨rfl, hb⟩
  go_wp2
  go_ret
  exact ⟨rfl, HB2.out.trans (hb.mono HB2.out.size)⟩

theorem like_any (x : WantR) (A A' : Option Addr) (c c' : Nat) (kind due now : Int) (w : World) (h : RSa w A x.keys) (h' : RSa w A' x.keys) (hl : x.keys.length ≤ 1000) :
    Calls Tryz.prog 16 #[.agg (recV (recOf x kind due now) A c), .agg (wantV x A' c'), .int .i64 kind, .int .i64 due, .int .i64 now] w fun e w' => e = .returned (.bool true) ∧ Below w.heap.size w w' := by
  obtain ⟨topic, queue, tag, keys, body⟩ := x
  simp only at h h' hl
  have hB1 := (Below.refl w.heap.size w).alloc (Nat.le_refl _) (.cells (recV (recOf ⟨topic, queue, tag, keys, body⟩ kind due now) A c) 56)
  have hB2 := hB1.alloc hB1.size (.cells (wantV ⟨topic, queue, tag, keys, body⟩ A' c') 33)
  have HB2 := Lib.hid hB2
  have HX := Lib.hid ((Blk.new w (recV (recOf ⟨topic, queue, tag, keys, body⟩ kind due now) A c) 56).alloc (.cells (wantV ⟨topic, queue, tag, keys, body⟩ A' c') 33))
  have HY := Lib.hid (Blk.new (w.alloc (.cells (recV (recOf ⟨topic, queue, tag, keys, body⟩ kind due now) A c) 56)) (wantV ⟨topic, queue, tag, keys, body⟩ A' c') 33)
  have hS2 := same6_one (recOf ⟨topic, queue, tag, keys, body⟩ kind due now) A A' c c' _ (h.below hB2) (h'.below hB2) hl
  clear h h' hB1 hB2
  rw [show (w.alloc (.cells (recV (recOf ⟨topic, queue, tag, keys, body⟩ kind due now) A c) 56)).heap.size = w.heap.size + 1 by simp] at HY
  simp only [recV, recOf, wantV] at *
  go_enter Tryz.func16, Tryz.ntmps16
  go_upto_region 1 with (fail)
  generalize (w.alloc (.cells #[.int .i64 kind, .int .i64 queue, .int .i64 due, .int .i64 0, .int .i64 0, .int .i64 now, .string (S topic), .string (S tag), .string (S body), .slice A keys.length c] 56)).alloc (.cells #[.string (S topic), .int .i64 queue, .string (S tag), .slice A' keys.length c', .string (S body)] 33) = w2 at *
  have x0 := HX.out.cell 0
  have x1 := HX.out.cell 1
  have x2 := HX.out.cell 2
  have x3 := HX.out.cell 3
  have x4 := HX.out.cell 4
  have x5 := HX.out.cell 5
  have x6 := HX.out.cell 6
  have x7 := HX.out.cell 7
  have x8 := HX.out.cell 8
  have x9 := HX.out.cell 9
  have y0 := HY.out.cell 0
  have y1 := HY.out.cell 1
  have y2 := HY.out.cell 2
  have y3 := HY.out.cell 3
  have y4 := HY.out.cell 4
  go_wp2_with (fail)
  refine hS2.mono ?_
  rintro e w3 ⟨rfl, hb⟩
  go_wp2
  go_ret
  exact ⟨rfl, HB2.out.trans (hb.mono HB2.out.size)⟩

/-- A slice's cells are numbers. -/
def NSa (w : World) (A : Option Addr) (l : List Nat) : Prop := ∀ j (hj : j < l.length), ∃ b o, A = some ⟨b, o, none⟩ ∧ w.cell? ⟨b, o + j, none⟩ = some (.int .i64 (l[j] : Int))
theorem NSa.below {w w' : World} {A : Option Addr} {l : List Nat} (h : NSa w A l) (hb : Below w.heap.size w w') : NSa w' A l := by
  intro j hj
  obtain ⟨b, o, hA, hc⟩ := h j hj
  exact ⟨b, o, hA, below_cell hb hc (cell_lt hc)⟩
theorem NSa_of_row {w : World} {base : Nat} {A : Option Addr} {n cap : Nat} {l : List Nat} (h : w.ownsRow base 3 1 (.slice A n cap) l.length (natV l)) : NSa w A l := by
  intro j hj
  rcases h.2 with ⟨_, h0⟩ | ⟨g, cp, cur, e, _⟩
  · omega
  · injection e with e1 _ e2
    subst e1
    have h0 := h.cells (g := g) rfl j (.int .i64 (l[j] : Int)) (natV_get l j hj)
    rw [Addr.add_mid] at h0
    exact ⟨g, 0, rfl, h0⟩

theorem Ints_one (A A' : Option Addr) (c c' : Nat) (l : List Nat) (w : World) (h : NSa w A l) (h' : NSa w A' l) (hl : l.length ≤ 1000000) :
    Calls Tryz.prog 12 #[.slice A l.length c, .slice A' l.length c'] w fun e w' => e = .returned (.bool true) ∧ Below w.heap.size w w' := by
  have HA := Lib.hid h
  have HA' := Lib.hid h'
  clear h h'
  go_enter Tryz.func12, Tryz.ntmps12
  go_wp2
  have HB := Lib.hid (Below.refl w.heap.size w)
  go_loopw [5] (fun vi wr => ∃ k : Nat, k ≤ l.length ∧ vi = .int .i64 k ∧ Hid (Below w.heap.size w wr)) (fun vi _ => l.length - (intOf vi).toNat)
  case atStart => exact ⟨0, Nat.zero_le _, rfl, HB⟩
  case round =>
    obtain ⟨k, hk, rfl, HB⟩ := hrel
    by_cases hlt : k < l.length
    · obtain ⟨b1, o1, rfl, hc1⟩ := HA.out k hlt
      obtain ⟨b2, o2, rfl, hc2⟩ := HA'.out k hlt
      have c1 := below_cell HB.out hc1 (cell_lt hc1)
      have c2 := below_cell HB.out hc2 (cell_lt hc2)
      clear hc1 hc2
      generalize l[k] = x at *
      go_wp2
      go_quiet (fail)
      go_wp2
      exact ⟨⟨k + 1, hlt, by go_num, Lib.hid (HB.out.trans ((below_drewN _ _).mono HB.out.size))⟩, by simp [intOf]; omega⟩
    · have hka : k = l.length := by omega
      subst hka
      go_wp2
      go_ret
      exact ⟨rfl, HB.out⟩

end Go.Proofs.YtnacjogdndggeaaGreatDoor
end
