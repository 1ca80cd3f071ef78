/- Layer 17 (pend): Pending with one that waits, or none. -/
import Derived.Test.YtnacjogdndggeaaGreatDoorY02
import Derived.Test.YtnacjogdndggeaaGreatDoorZ05
import Derived.Test.YtnacjogdndggeaaGreatDoorZ11
import Derived.Test.YtnacjogdndggeaaGreatDoorZ35
section
namespace Go.Proofs.YtnacjogdndggeaaGreatDoor
open Go.Shelf Go.RowKit Go.Lib
set_option maxRecDepth 100000
set_option maxHeartbeats 1000000

theorem over_waits {χ : Col} {c : Nat} {w : World} {p : Nat} {L : Pends} (h : IsPend χ c w p L) (id : Int) (h0 : -9223372036854775808 ≤ id) (h1 : id ≤ 9223372036854775807) (hs : stateF L id = 1) :
    Calls Tryz.prog 47 #[.pointer (some ⟨p, 0, none⟩), .int .i64 id] w fun e w' => e = .returned (.bool false) ∧ w = w' := by
  have hS := State_any h id h0 h1
  rw [hs] at hS
  clear h hs
  go_enter Tryz.func47, Tryz.ntmps47
  go_wp2_with (fail)
  refine hS.mono ?_
  rintro e w' ⟨rfl, rfl⟩
  clear hS
  go_wp2
  go_ret
  exact ⟨rfl, rfl⟩

theorem IndexWaits {χ : Col} {c : Nat} {w : World} {p cap : Nat} {L : Pends} {A : Option Addr} {l : List Nat} (h : IsPend χ c w p L) (hr : NSa w A l) (hs : ∀ k ∈ l, stateF L (k : Int) = 1) (hb : ∀ k ∈ l, k ≤ 90000000) (hl : l.length ≤ 1000) :
    Calls Tryz.prog 91 #[.slice A l.length cap, .func (.func 47) #[.pointer (some ⟨p, 0, none⟩)] #[]] w fun e w' => e = .returned (.int .i64 (-1)) ∧ w = w' := by
  have HR := Lib.hid hr
  have HO := Lib.hid (fun (k : Nat) (hk : k ∈ l) => over_waits h (k : Int) (by omega) (by have := hb k hk; omega) (hs k hk))
  clear hr h hs hb
  go_enter Tryz.func91, Tryz.ntmps91
  go_wp2
  go_loop [8] (fun vi => ∃ k : Nat, k ≤ l.length ∧ vi = .int .i64 k) (fun vi => l.length - (RowKit.intOf vi).toNat)
  case atStart => exact ⟨0, Nat.zero_le _, rfl⟩
  case round =>
    obtain ⟨k, hk, rfl⟩ := hrel
    by_cases hlt : k < l.length
    · obtain ⟨g, o, rfl, c0⟩ := HR.out k hlt
      have hcl := HO.out _ (List.getElem_mem hlt)
      generalize l[k] = x at *
      go_wp2_with (fail)
      refine hcl.mono ?_
      rintro e w1 ⟨rfl, rfl⟩
      clear hcl
      go_wp2
      exact ⟨⟨k + 1, hlt, by go_num⟩, by simp [RowKit.intOf]; omega⟩
    · have hkn : k = l.length := by omega
      subst hkn
      go_wp2
      go_ret
      exact ⟨rfl, rfl⟩

theorem DeleteWaits {χ : Col} {c : Nat} {w : World} {p cap : Nat} {L : Pends} {A : Option Addr} {l : List Nat} (h : IsPend χ c w p L) (hr : NSa w A l) (hs : ∀ k ∈ l, stateF L (k : Int) = 1) (hb : ∀ k ∈ l, k ≤ 90000000) (hl : l.length ≤ 1000) :
    Calls Tryz.prog 46 #[.slice A l.length cap, .func (.func 47) #[.pointer (some ⟨p, 0, none⟩)] #[]] w fun e w' => e = .returned (.slice A l.length cap) ∧ w = w' := by
  have hI := IndexWaits (cap := cap) h hr hs hb hl
  clear h hr hs hb
  go_enter Tryz.func46, Tryz.ntmps46
  go_wp2_with (fail)
  refine hI.mono ?_
  rintro e w' ⟨rfl, rfl⟩
  clear hI
  go_wp2
  go_ret
  exact ⟨rfl, rfl⟩

theorem Insertion_short (A : Option Addr) (n cap : Nat) (fv : Value) (w : World) (hn : n ≤ 1) :
    Calls Tryz.prog 148 #[.slice A n cap, .int .i64 0, .int .i64 (n : Int), fv] w fun e w' => (∃ v, e = .returned v) ∧ w = w' := by
  have i1 : ¬ (1 : Int) < (n : Int) := by omega
  have i2 : ¬ 1 < n := by omega
  go_enter Tryz.func148, Tryz.ntmps148
  go_upto_region 1 with (fail)
  refine wp_loop_rounds 1 ?_
  rw [rounds_succ]
  go_wp2
  exact bodyPost_end (v := .tuple #[]) (by simp [results, Tryz.results148, go_sem]) rfl ⟨⟨_, rfl⟩, rfl⟩

theorem Pdq_short (A : Option Addr) (n cap : Nat) (lim : Int) (fv : Value) (w : World) (hn : n ≤ 1) :
    Calls Tryz.prog 92 #[.slice A n cap, .int .i64 0, .int .i64 (n : Int), .int .i64 lim, fv] w fun e w' => (∃ v, e = .returned v) ∧ w = w' := by
  have hI := Insertion_short A n cap fv w hn
  have i1 : (n : Int) ≤ 12 := by omega
  have i2 : n ≤ 12 := by omega
  go_enter Tryz.func92, Tryz.ntmps92
  go_upto_region 2 with (fail)
  refine wp_loop_rounds 1 ?_
  rw [rounds_succ]
  go_wp2_with (fail)
  refine hI.mono ?_
  rintro e w' ⟨⟨v, rfl⟩, rfl⟩
  clear hI
  go_wp2
  exact bodyPost_ret (v := .tuple #[]) (by simp [results, Tryz.results92, go_sem]) rfl ⟨⟨_, rfl⟩, rfl⟩

theorem SortFunc_short (A : Option Addr) (n cap : Nat) (fv : Value) (w : World) (hn : n ≤ 1) :
    Calls Tryz.prog 48 #[.slice A n cap, fv] w fun e w' => (∃ v, e = .returned v) ∧ w = w' := by
  have hL := Tryz.bits_Len (n : Int) w (by omega) (by omega)
  have hP := fun lim => Pdq_short A n cap lim fv w hn
  have i1 : IntKind.u64.wrap (n : Int) = (n : Int) := by
    rcases Nat.le_one_iff_eq_zero_or_eq_one.1 hn with rfl | rfl <;> rfl
  go_enter Tryz.func48, Tryz.ntmps48
  go_wp2_with (fail)
  refine hL.mono ?_
  rintro e w' ⟨rfl, rfl⟩
  clear hL
  go_wp2_with (fail)
  refine (hP _).mono ?_
  rintro e w' ⟨⟨v, rfl⟩, rfl⟩
  clear hP
  go_wp2
  exact bodyPost_end (v := .tuple #[]) (by simp [results, Tryz.results48, go_sem]) rfl ⟨⟨_, rfl⟩, rfl⟩

theorem keys_list {L : Pends} {ids : List Nat} (h : L.map (·.1) = ids.map (fun n : Nat => (n : Int))) : intKeys (pendD L) = ids.map (fun n : Nat => (n : Int)) ∧ Maps.size (pendD L) = ids.length := by
  constructor
  · rw [← h]
    show List.map (fun p : Lit × DataW Unit => _root_.Go.intOf p.1) (List.map (fun p : Int × (Int × Int) => (Lit.int .i64 p.1, (.agg [.lit (.int .i64 p.2.1), .lit (.int .i64 p.2.2)] : DataW Unit))) L) = _
    rw [List.map_map]
    rfl
  · show (List.map (fun p : Int × (Int × Int) => (Lit.int .i64 p.1, (.agg [.lit (.int .i64 p.2.1), .lit (.int .i64 p.2.2)] : DataW Unit))) L).length = _
    rw [List.length_map]
    have := congrArg List.length h
    simpa using this

theorem Pending_any {χ : Col} {w : World} {p : Nat} {L : Pends} {ids : List Nat} (h : IsPend χ 11 w p L) (hids : L.map (·.1) = ids.map (fun n : Nat => (n : Int))) (hl : ids.length ≤ 1) (hs : ∀ k ∈ ids, stateF L (k : Int) = 1) (hb : ∀ k ∈ ids, k ≤ 90000000) :
    Calls Tryz.prog 20 #[.pointer (some ⟨p, 0, none⟩)] w fun e w' => ∃ A cap, e = .returned (.slice A ids.length cap) ∧ NSa w' A ids ∧ Below w.heap.size w w' := by
  obtain ⟨hkeys, hsize⟩ := keys_list hids
  have HP := Lib.hid h
  obtain ⟨m, h⟩ := h
  have hB1 := (Below.refl w.heap.size w).alloc (Nat.le_refl _) (.cells #[.pointer (some ⟨p, 0, none⟩)] 44)
  have HB1 := Lib.hid hB1
  have HM1 := Lib.hid (Blk.new w #[.pointer (some ⟨p, 0, none⟩)] 44)
  have h1 := ownsMap_stp h.map (Stp.of_below (C := fun _ => False) (χ := χ) hB1) (fun h => h)
  have c0 : (w.alloc (.cells #[.pointer (some ⟨p, 0, none⟩)] 44)).cell? ⟨p, 0, none⟩ = some (.map (some m)) := (hB1.cell (p := ⟨p, 0, none⟩) h.own.1.lt).trans (h.own.1.cell 0)
  obtain ⟨w1, hw1⟩ : ∃ w1, w1 = w.alloc (.cells #[.pointer (some ⟨p, 0, none⟩)] 44) := ⟨_, rfl⟩
  rw [← hw1] at HB1 HM1 h1 c0
  have cK : Calls Tryz.prog 45 #[.map (some m)] w1 fun e w' => e = .returned (.func (.func 90) #[] #[.pointer (some ⟨w1.heap.size, 0, none⟩)]) ∧ w' = w1.alloc (.cells #[.map (some m)] 105) := callsIn_wide.1 (AnyZI.keys_in Tryz.keysI Fence.wide 5 trivial rfl (some m) w1)
  have hseq : SeqGives Fence.wide 3 Tryz.prog 90 #[.pointer (some ⟨w1.heap.size, 0, none⟩)] encZ (fun ss => ss.Perm (intKeys (pendD L))) (Maps.size (pendD L)) (w1.alloc (.cells #[.map (some m)] 105)) :=
    AnyZI.keys_gives (ρ := Tryz.keysI_ren) { Tryz.keysI with } Fence.wide _ trivial rfl (by omega) w1.heap.size m L.length (pendD L) _ (by simp) (by simp) (by
      obtain ⟨es, clock, hb, Ft, hs, hD⟩ := h1
      exact ⟨es, clock, (Below.heap_alloc _ _ m (World.ownsMap.lt ⟨es, clock, hb, Ft, hs, hD⟩)).trans hb, Ft, hs, hD⟩)
  have cC : Calls Tryz.prog 44 #[.func (.func 90) #[] #[.pointer (some ⟨w1.heap.size, 0, none⟩)]] (w1.alloc (.cells #[.map (some m)] 105)) fun e w' => ∃ (v : Value) (ss : List Int), e = .returned v ∧ ss.Perm (intKeys (pendD L)) ∧ w'.ownsRow (w1.alloc (.cells #[.map (some m)] 105)).heap.size 3 1 v ss.length (ss.map encZ) ∧ (v = .slice none 0 0 ↔ ss = []) ∧ Below (w1.alloc (.cells #[.map (some m)] 105)).heap.size (w1.alloc (.cells #[.map (some m)] 105)) w' := callsIn_wide.1 (AnyZI.collect_in Tryz.collI Fence.wide 5 trivial trivial rfl (by omega) 90 #[.pointer (some ⟨w1.heap.size, 0, none⟩)] trivial (enters_of Tryz.func90 (by kernel_rfl) rfl) _ _ (by rw [hsize]; unfold maxLen; omega) (by rw [hsize]; omega) _ hseq)
  have HPP := Lib.hid (fun (W : World) (hb : Below w.heap.size w W) => HP.out.stp (C := fun _ => False) (Stp.of_below hb) (fun h => h))
  have HK := Lib.hid hkeys
  have HS := Lib.hid hs
  have HBd := Lib.hid hb
  have HLt := Lib.hid (show w.heap.size < w1.heap.size from HM1.out.lt)
  have b0 := HM1.out.cell 0
  clear h h1 hB1 hseq hkeys hsize hids hs hb HP
  have HW1 := Lib.hid hw1
  clear hw1
  go_enter Tryz.func20, Tryz.ntmps20
  go_upto_region 1 with (fail)
  rw [← HW1.out]
  go_wp2_with (fail)
  refine cK.mono ?_
  rintro e w' ⟨rfl, rfl⟩
  clear cK
  go_wp2_with (fail)
  refine cC.mono ?_
  rintro e w3 ⟨v, ss, rfl, hS, hrow, hnil, hb⟩
  rw [HK.out] at hS
  have hss : ss = ids.map (fun n : Nat => (n : Int)) := by
    match ids, hl with
    | [], _ => simpa using hS
    | [a], _ => simpa using hS
  subst hss
  rw [show (ids.map (fun n : Nat => (n : Int))).map encZ = natV ids by simp [natV], List.length_map] at hrow
  obtain ⟨A, cap, rfl⟩ := row_any hrow
  have hb2 := ((Below.refl w1.heap.size w1).alloc (Nat.le_refl _) (.cells #[.map (some m)] 105))
  have hb3 := HB1.out.trans ((hb2.trans (hb.mono (by simp))).mono HB1.out.size)
  have HB3 := Lib.hid hb3
  have HN3 := Lib.hid (NSa_of_row hrow)
  have HM3 := Lib.hid (HM1.out.below (hb2.trans (hb.mono (by simp))))
  have b1 := HM3.out.cell 0
  have hDl := DeleteWaits (cap := cap) (HPP.out w3 hb3) HN3.out HS.out HBd.out (by omega)
  have hSo := fun fv => SortFunc_short A ids.length cap fv w3 hl
  clear cC hb hb2 hb3 hrow hnil hS b0 c0
  go_wp2_with (fail)
  refine hDl.mono ?_
  rintro e w' ⟨rfl, rfl⟩
  clear hDl
  go_wp2_with (fail)
  refine (hSo _).mono ?_
  rintro e w' ⟨⟨v, rfl⟩, rfl⟩
  clear hSo
  go_wp2
  go_ret
  exact ⟨A, cap, rfl, HN3.out, HB3.out⟩

end Go.Proofs.YtnacjogdndggeaaGreatDoor
end
