/- PROVED: the tied card of the statement. The law SendAll: its row and its card. -/
import Derived.Test.YtnacjogdndggeaaGreatDoorZ32
import Derived.Test.YtnacjogdndggeaaGreatDoorZ33
import Derived.Test.YtnacjogdndggeaaGreatDoorZ37
import Derived.Test.YtnacjogdndggeaaGreatDoorCards
import Derived.Test.YtnacjogdndggeaaGreatDoorTie
import Derived.SevenTiedAt
section
namespace Go.Proofs.YtnacjogdndggeaaGreatDoor
open Go.ChangeShapes Go.WideShapes Go.ChangeAt Go.RowKit
open Go.ChangeMaps (open_string shut_string)
set_option maxRecDepth 100000
set_option maxHeartbeats 1000000

theorem pow10_laid : (Rows.laid_internal_strconv_uint64pow10 : DataW Unit) = Lib.tabData .u64 Lib.pow10Tab := by kernel_rfl

/-- What the rows' condition gives the walks. -/
theorem tab_of_laid {W : World} (h : laidMetH Tryz.prog Rows.sendAllRow.laid W) : Lib.TabIs Tryz.prog W "internal/strconv.uint64pow10" .u64 Lib.pow10Tab := by
  rw [MakeChecks.laidMetH_plain _ _ _ (by kernel_rfl)] at h
  obtain ⟨ps, hl, _⟩ := h
  obtain ⟨g0, t0, cs0, f0, p0, q0, hg0, ht0, hv0, hd0, hl, _⟩ := hl
  obtain ⟨g1, t1, cs1, f1, p1, q1, hg1, ht1, hv1, hd1, hl, _⟩ := hl
  obtain ⟨g2, t2, cs2, f2, p2, q2, hg2, ht2, hv2, hd2, hl, _⟩ := hl
  clear hd0 hd1 hl
  obtain ⟨g, hg, t, ht⟩ : ∃ g, Tryz.prog.globalNamed "internal/strconv.uint64pow10" = some g ∧ ∃ t, (Tryz.prog.globals[g]?).map (·.type) = some t := ⟨g2, hg2, t2, ht2⟩
  have hty : ((Tryz.prog.globalNamed "internal/strconv.uint64pow10").bind fun g => (Tryz.prog.globals[g]?).map (·.type)) = some 376 := by kernel_rfl
  rw [hg2] at hty
  obtain rfl := Option.some.inj (ht2.symm.trans hty)
  unfold Lib.TabIs
  rw [hv2]
  have hd : DataW.trod (fun _ => ()) Tryz.prog W 0 (fun _ => true) false f2 376 cs2.toList = some (Lib.tabData .u64 Lib.pow10Tab, p2) := by
    rw [← pow10_laid]
    exact hd2
  rw [← Lib.cells_of_tab Tryz.underlying376 Tryz.underlying221 (by kernel_rfl) (by kernel_rfl) hd]

theorem sendAll_lifted (os : Os) (started : os.Started) (H : Type) (enc : TypeId × Value → H) :
    ReturnsInHanded {} Tryz.checked os 3 .any (fun w args => (Rows.sendAllSpec.pre enc Tryz.prog Tryz.f3 [] false w args ∧ laidMetH Tryz.prog Rows.sendAllRow.laid w) ∧ sizedMet enc Tryz.prog Tryz.f3 (OpenSpec.ofChange Rows.sendAllSpec) false w args)
      (Rows.sendAllSpec.post enc Tryz.prog Tryz.f3 false true false false) := by
  refine returnsInHanded_of_change_and (C := Tryz.checked) (X := fun w _ => laidMetH Tryz.prog Rows.sendAllRow.laid w) (fun _ _ _ hh h => h.of_heap hh) own started (by kernel_rfl) Tryz.func3
    (ChangeSpec.witness_shaped (enc := enc) (C := Tryz.checked) (os := os) (X := fun w _ => laidMetH Tryz.prog Rows.sendAllRow.laid w) false (World.laidAll Tryz.prog os Rows.sendAllRow.laid) #[.slice none 0 0, .bool false] 8 (World.laidAll_os _ _ _)
      (World.shaped_of_ZipB (by kernel_rfl) (by kernel_rfl)) (by kernel_rfl) (by kernel_rfl) (by kernel_rfl)
      (by rw [MakeChecks.laidMetH_plain _ _ _ (by kernel_rfl)]; exact laidMet_laidAll _ (by kernel_rfl) (by kernel_rfl))) ?_
  intro W base args ds gs before hval0 hW _ _ hL _
  have hval : ∀ (j : Nat) t v, Tryz.f3.params[j]? = some t → args[j]? = some v → Value.okWide Tryz.prog W .any base t v := hval0
  have hW' := hW
  obtain ⟨p, q, hA0, hV, rfl, hfz, hnd⟩ := hW
  have hA : DataW.TrodAll enc Tryz.prog W 0 (fun _ => true) true Tryz.f3.params.toList args.toList ds p := hA0
  rw [Tryz.params3] at hA hval
  obtain ⟨v0, vs0, d0, ds0, p0, q0, hargs, rfl, rfl, h0, r0⟩ := trodAll_cons hA
  obtain ⟨v1, vs1, d1, ds1, p1, q1, rfl, rfl, rfl, h1, r1⟩ := trodAll_cons r0
  obtain ⟨rfl, rfl, rfl⟩ := trodAll_nil r1
  obtain rfl : args = #[v0, v1] := by cases args; simp_all
  obtain ⟨rfl, rfl⟩ := trodVars_none hV
  have lt0 : ∀ x ∈ p0, x.block < W.heap.size := by obtain ⟨m, hm⟩ := h0; exact DataW.trod_lt m _ _ _ hm
  have lt1 : ∀ x ∈ p1, x.block < W.heap.size := by obtain ⟨m, hm⟩ := h1; exact DataW.trod_lt m _ _ _ hm
  obtain ⟨a0, len0, cap0, rfl⟩ := okWide_slice Tryz.underlying22 (hval 0 22 v0 rfl rfl)
  obtain ⟨l0, hl0, w0⟩ := open_wants h0
  subst hl0
  have g1 := h1
  obtain ⟨b1, rfl, _, _⟩ := open_bool Tryz.underlying4 (hval 1 4 v1 rfl rfl) g1
  have hT : Tab (fun _ => 0) W := ⟨tab_of_laid hL, fun _ _ => rfl⟩
  clear hA0 hval0 hval
  refine (SendAll_any (c := cap0) hT w0 b1).mono fun e W' ⟨he, bel⟩ => ?_
  subst he
  exact ⟨_, rfl, _, _, _, [], _, [], hW', trodAll_mk1 (shut_bool Tryz.underlying4 _), (trodAll_cons_mk (Below.trod laidOut (by kernel_rfl) (of_decide_eq_true (by kernel_rfl)) h0 bel lt0) (trodAll_cons_mk (Below.trod laidOut (by kernel_rfl) (of_decide_eq_true (by kernel_rfl)) h1 bel lt1) trodAll_mk0)), rfl, bel.frame _, fun h => by cases h⟩

theorem sendAll_holds : Rows.SendAllSaid :=
  OpenClaim.holds_of_wide 3 Tryz.f3 rfl rfl rfl rfl rfl rfl rfl ⟨rfl, rfl, rfl, rfl, rfl⟩ rfl rfl rfl rfl rfl sendAll_named sendAll_at
    sendAll_facts sendAll_instance sendAll_wrapper
    (fun os started H enc _ => by rw [← sendAll_pre]; exact sendAll_lifted os started H enc)

theorem sendAll_card : Rows.SendAllCardSaid :=
  Claim7.holds_tied_plain_at .later [] [.data, .data, .data, .data, .sentinel, .sentinel, .pinned] true (true, "52442822388f5448a1de083a1fd5abdaaf49b024715f1d0d6a8ed6ab8cb2b523") true
    sendAll_holds (fun _ h => by cases h) (by kernel_rfl) (fun _ h => by cases h) sendAll_row_tie rfl ⟨rfl, rfl⟩ (by kernel_rfl) rfl
    (fun f fn hf hfn => by
      obtain rfl : f = 3 := Option.some.inj ((show Tryz.prog.funcNamed "reveille/reveillelaw22.SendAll" = some 3 by kernel_rfl).symm.trans hf) |>.symm
      obtain rfl : fn = Tryz.f3 := (Option.some.inj (Tryz.func3.symm.trans hfn)).symm
      exact ⟨by kernel_rfl, fun j t ht => by
        rw [Tryz.params3] at ht
        have hm : t ∈ [22, 4] := by simpa using Array.mem_of_getElem? ht
        have hall : ([22, 4].all fun u => !Tryz.prog.wantsStandIn u) = true := by kernel_rfl
        exact (show Tryz.prog.wantsStandIn t = false by simpa using List.all_eq_true.1 hall t hm)⟩)
    (by kernel_rfl)
#print axioms sendAll_card
end Go.Proofs.YtnacjogdndggeaaGreatDoor
end
