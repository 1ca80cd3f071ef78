/- PROVED: the tied card of the statement. The law SendSends: its row and its card. -/
import Derived.Test.YtnacjogdndggeaaGreatDoorZ32
import Derived.Test.YtnacjogdndggeaaGreatDoorY01
import Derived.Test.YtnacjogdndggeaaGreatDoorY04
import Derived.Test.YtnacjogdndggeaaGreatDoorCards
import Derived.Test.YtnacjogdndggeaaGreatDoorTie
import Derived.SevenTiedAt
section
namespace Go.Proofs.YtnacjogdndggeaaGreatDoor
open Go.ChangeShapes Go.WideShapes Go.ChangeAt Go.RowKit
open Go.ChangeMaps (open_string shut_string)
set_option maxRecDepth 100000
set_option maxHeartbeats 1000000

theorem agg_of {W : World} {r : Reach} {base : Nat} {t : TypeId} {v : Value} {fs : Array Field} (ht : Tryz.prog.underlying t = some (.struct fs)) (hv : Value.okWide Tryz.prog W r base t v) : ∃ cs, v = .agg cs := by
  unfold Value.okWide at hv
  rw [ht] at hv
  obtain ⟨cs, rfl, _⟩ := hv
  exact ⟨cs, rfl⟩

theorem open_when {W : World} {H : Type} {enc : TypeId × Value → H} {cs : List Value} {x : DataW H × List MemPlace} {fuel : Nat} (h : DataW.trod enc Tryz.prog W 0 (fun _ => true) true fuel 62 cs = some x) :
    ∃ n a b f, cs = [.int .i64 n, .int .i64 a, .bool b, .int .u8 f] ∧ 0 ≤ f ∧ f ≤ 255 := by
  obtain ⟨xs, m, rfl, _, hcs, hxs, hel⟩ := DataW.trod_struct Tryz.underlying62 h
  rw [show Tryz.prog.cellsOf 62 = 4 by kernel_rfl] at hcs
  have hx4 : xs.length = 4 := hxs
  have cI : Tryz.prog.cellsOf 3 = 1 := by kernel_rfl
  have cB : Tryz.prog.cellsOf 4 = 1 := by kernel_rfl
  have cU : Tryz.prog.cellsOf 5 = 1 := by kernel_rfl
  match cs, hcs, xs, hx4, hel with
  | [c0, c1, c2, c3], _, [x0, x1, x2, x3], _, hel =>
    have h0 : DataW.trod enc Tryz.prog W 0 (fun _ => true) true m 3 (([c0, c1, c2, c3].drop 0).take (Tryz.prog.cellsOf 3)) = some x0 := hel 0 _ rfl
    have h1 : DataW.trod enc Tryz.prog W 0 (fun _ => true) true m 3 (([c0, c1, c2, c3].drop 1).take (Tryz.prog.cellsOf 3)) = some x1 := hel 1 _ rfl
    have h2 : DataW.trod enc Tryz.prog W 0 (fun _ => true) true m 4 (([c0, c1, c2, c3].drop 2).take (Tryz.prog.cellsOf 4)) = some x2 := hel 2 _ rfl
    have h3 : DataW.trod enc Tryz.prog W 0 (fun _ => true) true m 5 (([c0, c1, c2, c3].drop 3).take (Tryz.prog.cellsOf 5)) = some x3 := hel 3 _ rfl
    rw [cI] at h0 h1
    rw [cB] at h2
    rw [cU] at h3
    obtain ⟨n, e0, _, _⟩ := DataW.trod_int Tryz.underlying3 h0
    obtain ⟨a, e1, _, _⟩ := DataW.trod_int Tryz.underlying3 h1
    obtain ⟨b, e2, _⟩ := DataW.trod_bool Tryz.underlying4 h2
    obtain ⟨f, e3, _, hw⟩ := DataW.trod_int Tryz.underlying5 h3
    obtain rfl : c0 = .int .i64 n := by simpa using e0
    obtain rfl : c1 = .int .i64 a := by simpa using e1
    obtain rfl : c2 = .bool b := by simpa using e2
    obtain rfl : c3 = .int .u8 f := by simpa using e3
    exact ⟨n, a, b, f, rfl, by simpa [Lit.wf, IntKind.min, IntKind.max, IntKind.signed, IntKind.bits] using hw⟩

theorem pow10_laidS : (Rows.laid_internal_strconv_uint64pow10 : DataW Unit) = Lib.tabData .u64 Lib.pow10Tab := by kernel_rfl

/-- What the rows' condition gives the walks. -/
theorem tab_of_laidS {W : World} (h : laidMetH Tryz.prog Rows.sendSendsRow.laid W) : Lib.TabIs Tryz.prog W "internal/strconv.uint64pow10" .u64 Lib.pow10Tab := by
  rw [MakeChecks.laidMetH_plain _ _ _ (by kernel_rfl)] at h
  obtain ⟨ps, hl, _⟩ := h
  obtain ⟨g0, t0, cs0, f0, p0, q0, hg0, ht0, hv0, hd0, hl, _⟩ := hl
  obtain ⟨g1, t1, cs1, f1, p1, q1, hg1, ht1, hv1, hd1, hl, _⟩ := hl
  obtain ⟨g2, t2, cs2, f2, p2, q2, hg2, ht2, hv2, hd2, hl, _⟩ := hl
  clear hd0 hd1 hl
  obtain ⟨g, hg, t, ht⟩ : ∃ g, Tryz.prog.globalNamed "internal/strconv.uint64pow10" = some g ∧ ∃ t, (Tryz.prog.globals[g]?).map (·.type) = some t := ⟨g2, hg2, t2, ht2⟩
  have hty : ((Tryz.prog.globalNamed "internal/strconv.uint64pow10").bind fun g => (Tryz.prog.globals[g]?).map (·.type)) = some 376 := by kernel_rfl
  rw [hg2] at hty
  obtain rfl := Option.some.inj (ht2.symm.trans hty)
  unfold Lib.TabIs
  rw [hv2]
  have hd : DataW.trod (fun _ => ()) Tryz.prog W 0 (fun _ => true) false f2 376 cs2.toList = some (Lib.tabData .u64 Lib.pow10Tab, p2) := by
    rw [← pow10_laidS]
    exact hd2
  rw [← Lib.cells_of_tab Tryz.underlying376 Tryz.underlying221 (by kernel_rfl) (by kernel_rfl) hd]

theorem sendSends_lifted (os : Os) (started : os.Started) (H : Type) (enc : TypeId × Value → H) :
    ReturnsInHanded {} Tryz.checked os 4 .any (fun w args => (Rows.sendSendsSpec.pre enc Tryz.prog Tryz.f4 [] false w args ∧ laidMetH Tryz.prog Rows.sendSendsRow.laid w) ∧ sizedMet enc Tryz.prog Tryz.f4 (OpenSpec.ofChange Rows.sendSendsSpec) false w args)
      (Rows.sendSendsSpec.post enc Tryz.prog Tryz.f4 false true false false) := by
  refine returnsInHanded_of_change_and (C := Tryz.checked) (X := fun w _ => laidMetH Tryz.prog Rows.sendSendsRow.laid w) (fun _ _ _ hh h => h.of_heap hh) own started (by kernel_rfl) Tryz.func4
    (ChangeSpec.witness_shaped (enc := enc) (C := Tryz.checked) (os := os) (X := fun w _ => laidMetH Tryz.prog Rows.sendSendsRow.laid w) false (World.laidAll Tryz.prog os Rows.sendSendsRow.laid) #[.agg #[.string ⟨#[]⟩, .int .i64 0, .string ⟨#[]⟩, .slice none 0 0, .string ⟨#[]⟩], .agg #[.int .i64 0, .int .i64 0, .bool false, .int .u8 0]] 8 (World.laidAll_os _ _ _)
      (World.shaped_of_ZipB (by kernel_rfl) (by kernel_rfl)) (by kernel_rfl) (by kernel_rfl) (by kernel_rfl)
      (by rw [MakeChecks.laidMetH_plain _ _ _ (by kernel_rfl)]; exact laidMet_laidAll _ (by kernel_rfl) (by kernel_rfl))) ?_
  intro W base args ds gs before hval0 hW _ _ hL _
  have hval : ∀ (j : Nat) t v, Tryz.f4.params[j]? = some t → args[j]? = some v → Value.okWide Tryz.prog W .any base t v := hval0
  have hW' := hW
  obtain ⟨p, q, hA0, hV, rfl, hfz, hnd⟩ := hW
  have hA : DataW.TrodAll enc Tryz.prog W 0 (fun _ => true) true Tryz.f4.params.toList args.toList ds p := hA0
  rw [Tryz.params4] at hA hval
  obtain ⟨v0, vs0, d0, ds0, p0, q0, hargs, rfl, rfl, h0, r0⟩ := trodAll_cons hA
  obtain ⟨v1, vs1, d1, ds1, p1, q1, rfl, rfl, rfl, h1, r1⟩ := trodAll_cons r0
  obtain ⟨rfl, rfl, rfl⟩ := trodAll_nil r1
  obtain rfl : args = #[v0, v1] := by cases args; simp_all
  obtain ⟨rfl, rfl⟩ := trodVars_none hV
  have lt0 : ∀ x ∈ p0, x.block < W.heap.size := by obtain ⟨m, hm⟩ := h0; exact DataW.trod_lt m _ _ _ hm
  have lt1 : ∀ x ∈ p1, x.block < W.heap.size := by obtain ⟨m, hm⟩ := h1; exact DataW.trod_lt m _ _ _ hm
  obtain ⟨cs0, rfl⟩ := agg_of Tryz.underlying33 (hval 0 33 v0 rfl rfl)
  obtain ⟨y0, A0, c0, e0, w0, k0⟩ : ∃ (y : WantR) (A : Option Addr) (c : Nat), cs0 = wantV y A c ∧ RSa W A y.keys ∧ y.keys.length ≤ c := by
    obtain ⟨m, hm⟩ := h0
    obtain ⟨y, A, c, he, hr, hk⟩ := open_want hm
    exact ⟨y, A, c, by have h := congrArg List.toArray he; simpa [Value.cells] using h, hr, hk⟩
  subst e0
  obtain ⟨cs1, rfl⟩ := agg_of Tryz.underlying62 (hval 1 62 v1 rfl rfl)
  obtain ⟨n1, a1, b1, f1, e1, z0, z1⟩ : ∃ n a b f, cs1 = #[.int .i64 n, .int .i64 a, .bool b, .int .u8 f] ∧ 0 ≤ f ∧ f ≤ 255 := by
    obtain ⟨m, hm⟩ := h1
    obtain ⟨n, a, b, f, he, hz⟩ := open_when hm
    exact ⟨n, a, b, f, by have h := congrArg List.toArray he; simpa [Value.cells] using h, hz⟩
  subst e1
  have hT : Tab (fun _ => 0) W := ⟨tab_of_laidS hL, fun _ _ => rfl⟩
  clear hA0 hval0 hval
  refine (SendSends_any (c := c0) hT w0 k0 z0 z1 b1).mono fun e W' ⟨he, bel⟩ => ?_
  subst he
  exact ⟨_, rfl, _, _, _, [], _, [], hW', trodAll_mk1 (shut_bool Tryz.underlying4 _), (trodAll_cons_mk (Below.trod laidOut (by kernel_rfl) (of_decide_eq_true (by kernel_rfl)) h0 bel lt0) (trodAll_cons_mk (Below.trod laidOut (by kernel_rfl) (of_decide_eq_true (by kernel_rfl)) h1 bel lt1) trodAll_mk0)), rfl, bel.frame _, fun h => by cases h⟩

theorem sendSends_holds : Rows.SendSendsSaid :=
  OpenClaim.holds_of_wide 4 Tryz.f4 rfl rfl rfl rfl rfl rfl rfl ⟨rfl, rfl, rfl, rfl, rfl⟩ rfl rfl rfl rfl rfl sendSends_named sendSends_at
    sendSends_facts sendSends_instance sendSends_wrapper
    (fun os started H enc _ => by rw [← sendSends_pre]; exact sendSends_lifted os started H enc)

theorem sendSends_card : Rows.SendSendsCardSaid :=
  Claim7.holds_tied_plain_at .later [] [.data, .data, .data, .data, .sentinel, .sentinel, .pinned] true (true, "52442822388f5448a1de083a1fd5abdaaf49b024715f1d0d6a8ed6ab8cb2b523") true
    sendSends_holds (fun _ h => by cases h) (by kernel_rfl) (fun _ h => by cases h) sendSends_row_tie rfl ⟨rfl, rfl⟩ (by kernel_rfl) rfl
    (fun f fn hf hfn => by
      obtain rfl : f = 4 := Option.some.inj ((show Tryz.prog.funcNamed "reveille/reveillelaw22.SendSends" = some 4 by kernel_rfl).symm.trans hf) |>.symm
      obtain rfl : fn = Tryz.f4 := (Option.some.inj (Tryz.func4.symm.trans hfn)).symm
      exact ⟨by kernel_rfl, fun j t ht => by
        rw [Tryz.params4] at ht
        have hm : t ∈ [33, 62] := by simpa using Array.mem_of_getElem? ht
        have hall : ([33, 62].all fun u => !Tryz.prog.wantsStandIn u) = true := by kernel_rfl
        exact (show Tryz.prog.wantsStandIn t = false by simpa using List.all_eq_true.1 hall t hm)⟩)
    (by kernel_rfl)
#print axioms sendSends_card
end Go.Proofs.YtnacjogdndggeaaGreatDoor
end
