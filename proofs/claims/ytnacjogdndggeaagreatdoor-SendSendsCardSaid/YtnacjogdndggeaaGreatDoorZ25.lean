/- Layer 13 (topic): a text saved whole. Layer 13 (topic): Add. Layer 17 (pend): Note of a scheduled record. Layer 8 (tape): End, Begin, Synced, Sync. -/
import Derived.Test.YtnacjogdndggeaaGreatDoorZ22
import Derived.Test.YtnacjogdndggeaaGreatDoorZ24
import Derived.Test.YtnacjogdndggeaaGreatDoorZ21
import Derived.Test.YtnacjogdndggeaaGreatDoorZ16
import Derived.Test.YtnacjogdndggeaaGreatDoorZ20
import Derived.Lib.SliceRun
section
namespace Go.Proofs.YtnacjogdndggeaaGreatDoor
open Go.Shelf Go.RowKit Go.Lib
set_option maxRecDepth 100000
set_option maxHeartbeats 1000000

theorem laid_good {χ : Col} {cd d : Nat} {D : Dsk} {w : World} {n x : List UInt8} (hd : IsDk χ cd w d D) (h0 : cd ≠ 0) (hn : D.file n = none) (hl : n.length ≤ 1000) (hx : x ≠ []) (hroom : (x.length : Int) ≤ D.room) (hN : D.files.length ≤ 1000000) (hW : D.waits.length ≤ 1000000) :
    Calls Tryz.prog 117 #[.pointer (some ⟨d, 0, none⟩), .string (S n), .string (S x)] w fun e w' => e = .returned (.int .i64 0) ∧ ∃ χ', Stp (· = cd) χ w χ' w' ∧ IsDk χ' cd w' d (((D.create n).write n 0 x).sync [n]) := by
  have hok := hd.ok
  have hC := Create_new hd hn hl (by omega)
  have hf1 : (D.create n).file n = some ⟨[], []⟩ := by rw [Dsk.file_create, if_pos rfl]
  have hsz : (D.create n).room = D.room := by unfold Dsk.room; rw [Dsk.size_create hok hn, Dsk.cap_create]
  have hWr := fun {χ : Col} {W : World} (hd : IsDk χ cd W d (D.create n)) => Write_good (k := 0) hd hf1 (Nat.zero_le _) hx (by rw [hsz]; simpa using hroom) (by show D.waits.length ≤ _; omega)
  have hf2 : (((D.create n).write n 0 x).file n).isSome = true := by rw [Dsk.file_write hf1, if_pos rfl]; rfl
  have hw2 : ((D.create n).write n 0 x).waits.length ≤ 1000000000 := by rw [Dsk.waits_write hf1 hx]; simp [Dsk.create]; omega
  have hSy := fun {χ : Col} {W : World} {b : Nat} (hd : IsDk χ cd W d ((D.create n).write n 0 x)) (hb : Blk W b #[.string (S n)] 9) (hc : χ b ≠ cd) => DSync_good (A := some ⟨b, 0, none⟩) (cp := 1) (l := [n]) hd (rsa_blk1 hb) (fun b' o e => by cases e; exact hc) (by simpa using hf2) (by simp) hw2
  clear hd
  go_enter Tryz.func117, Tryz.ntmps117
  go_wp2_with (fail)
  refine hC.mono ?_
  rintro e w1 ⟨rfl, χ1, s1, hd1⟩
  have HS1 := Lib.hid s1
  have HD1 := Lib.hid hd1
  clear hC s1 hd1
  go_wp2_with (fail)
  refine (hWr HD1.out).mono ?_
  rintro e w2 ⟨rfl, χ2, s2, hd2⟩
  have HS2 := Lib.hid (HS1.out.trans s2)
  have hB3 := (Below.refl w2.heap.size w2).alloc (Nat.le_refl _) (.cells #[.string (S n)] 9)
  have s3 := (Stp.of_below (C := fun _ => False) (χ := χ2) hB3).paint (Nat.le_refl _) 0
  have HD3 := Lib.hid (hd2.stp s3 (fun h => h))
  have HS3 := Lib.hid (HS2.out.trans (s3.mono fun k hk => hk.elim))
  have hbn := Blk.new w2 #[.string (S n)] 9
  have hS := hSy HD3.out hbn (by rw [paint_new (Nat.le_refl _)]; exact fun e => h0 e.symm)
  clear hWr hSy hd2 s2 s3 hB3 HS1 HD1 HS2
  go_wp2_with (fail)
  refine hS.mono ?_
  rintro e w4 ⟨rfl, s4, hd4⟩
  go_wp2
  go_ret
  exact ⟨rfl, _, HS3.out.trans s4, hd4⟩

/-- What a saved text's disk is before the new file gets the old one's name. -/
def Dsk.pre (D : Dsk) (n x : List UInt8) : Dsk := ((D.create (n ++ newL)).write (n ++ newL) 0 x).sync [n ++ newL]
theorem Rename_any {χ : Col} {c d : Nat} {D : Dsk} {w : World} {a b : List UInt8} {f : FileC} (h : IsDk χ c w d D) (hf : D.file a = some f) (hne : a ≠ b) (hlb : b.length ≤ 1000) (hN : D.files.length ≤ 1000000000) (hW : D.waits.length ≤ 1000000000) :
    Calls Tryz.prog 120 #[.pointer (some ⟨d, 0, none⟩), .string (S a), .string (S b)] w fun e w' => e = .returned (.int .i64 0) ∧ Stp (· = c) χ w χ w' ∧ IsDk χ c w' d (D.rename a b) := by
  cases hb : D.file b with
  | none => exact Rename_free h hf hb hlb hN
  | some g => exact Rename_over h hf hb hne hN hW

theorem Save_good {χ : Col} {cd d : Nat} {D : Dsk} {w : World} {n x : List UInt8} (hd : IsDk χ cd w d D) (h0 : cd ≠ 0) (hn : D.names (n ++ newL) = []) (hl : n.length ≤ 100) (hx : x.length ≤ 10000) (hroom : ((x.length + 4 : Nat) : Int) ≤ D.room) (hN : D.files.length ≤ 100000) (hW : D.waits.length ≤ 100000) :
    Calls Tryz.prog 60 #[.pointer (some ⟨d, 0, none⟩), .string (S n), .string (S x)] w fun e w' => e = .returned (.int .i64 0) ∧ ∃ χ', Stp (· = cd) χ w χ' w' ∧ IsDk χ' cd w' d (D.save n (sealF x)) := by
  have hf0 := Dsk.names_file hn
  have hsl := sealF_len x
  have hnl : (n ++ newL).length ≤ 104 := by simp [newL]; omega
  have hL := DList_any hd (n ++ newL) (by omega)
  rw [hn] at hL
  have hLd := fun {χ : Col} {W : World} (hd : IsDk χ cd W d D) => laid_good hd h0 hf0 (by omega) (x := sealF x) (by intro e; rw [e, List.length_nil] at hsl; omega) (by rw [hsl]; omega) (by omega) (by omega)
  have hfp : (D.pre n (sealF x)).file (n ++ newL) = some ⟨sealF x, sealF x⟩ := by unfold Dsk.pre; rw [Dsk.save3, if_pos rfl]
  have hpl : (D.pre n (sealF x)).files.length ≤ 1000000000 := by
    have h1 := Dsk.length_last1 ((D.create (n ++ newL)).write (n ++ newL) 0 (sealF x)) (n ++ newL)
    have h2 := Dsk.length_write (D.create (n ++ newL)) (n ++ newL) 0 (sealF x)
    have h3 := Dsk.length_create D (n ++ newL)
    have h4 : (D.pre n (sealF x)).files.length = (((D.create (n ++ newL)).write (n ++ newL) 0 (sealF x)).last1 (n ++ newL)).files.length := rfl
    omega
  have hpw : (D.pre n (sealF x)).waits.length ≤ 1000000000 := by
    have h1 : (((D.create (n ++ newL)).write (n ++ newL) 0 (sealF x))).waits.length ≤ D.waits.length + 1 := by
      unfold Dsk.write
      split
      · show D.waits.length ≤ _; omega
      · split
        · show D.waits.length ≤ _; omega
        · simp [Dsk.create]
    have h2 : (D.pre n (sealF x)).waits = (((D.create (n ++ newL)).write (n ++ newL) 0 (sealF x)).last1 (n ++ newL)).waits := rfl
    have h3 : (((D.create (n ++ newL)).write (n ++ newL) 0 (sealF x)).last1 (n ++ newL)).waits.length ≤ (((D.create (n ++ newL)).write (n ++ newL) 0 (sealF x))).waits.length := by
      unfold Dsk.last1
      split
      · exact Nat.le_refl _
      · exact List.length_filter_le _ _
    rw [h2]
    omega
  have hR := fun {χ : Col} {W : World} (hd : IsDk χ cd W d (D.pre n (sealF x))) => Rename_any (b := n) hd hfp (Dsk.next_ne n) (by omega) hpl hpw
  have hsv : D.save n (sealF x) = (D.pre n (sealF x)).rename (n ++ newL) n := rfl
  rw [hsv]
  have hpre : ((D.create (n ++ newL)).write (n ++ newL) 0 (sealF x)).sync [n ++ newL] = D.pre n (sealF x) := rfl
  have HD := Lib.hid hd
  have hs1 : (S n).size ≤ 100 := by simpa using hl
  have hs2 : n.length ≤ 100 := hl
  have hcat : S n ++ (⟨#[46, 110, 101, 119]⟩ : ByteArray) = S (n ++ newL) := by
    show S n ++ S newL = _
    rw [S_app]
  clear hd hn hf0 hroom hN hW hfp hpl hpw hsv
  go_enter Tryz.func60, Tryz.ntmps60
  go_wp2_with (fail)
  refine hL.mono ?_
  rintro e w1 ⟨v, rfl, hv, hb⟩
  obtain ⟨A, cap, rfl⟩ := row_any hv
  have HB1 := Lib.hid hb
  clear hv hb hL
  go_wp2_with (fail)
  refine (Tryz.slices_Contains_string_empty A cap (S (n ++ newL)) w1).mono ?_
  rintro e w' ⟨rfl, rfl⟩
  go_wp2_with (fail)
  refine (crcNew_any _).mono ?_
  rintro e w2 ⟨rfl, htab, hb2⟩
  have HB2 := Lib.hid (HB1.out.trans (hb2.mono HB1.out.size))
  clear hb2
  go_wp2_with (fail)
  refine (Seal_any _ x w2 htab (by omega)).mono ?_
  rintro e w3 ⟨rfl, hb3⟩
  have HB3 := Lib.hid (HB2.out.trans (hb3.mono HB2.out.size))
  have HD3 := Lib.hid (HD.out.below HB3.out)
  clear hb3 htab HB1 HB2 HD
  go_wp2_with (fail)
  refine (hLd HD3.out).mono ?_
  rintro e w4 ⟨rfl, χ4, s4, hd4⟩
  rw [hpre] at hd4
  go_wp2_with (fail)
  refine (hR hd4).mono ?_
  rintro e w5 ⟨rfl, s5, hd5⟩
  go_wp2
  go_ret
  exact ⟨rfl, χ4, ((Stp.of_below HB3.out).trans s4).trans s5, hd5⟩

end Go.Proofs.YtnacjogdndggeaaGreatDoor
end

section
namespace Go.Proofs.YtnacjogdndggeaaGreatDoor
open Go.Shelf Go.RowKit Go.Lib
set_option maxRecDepth 100000
set_option maxHeartbeats 1000000

theorem topic_info : (Tryz.prog.info? 122).map (fun i => (i.zero, i.size, i.bytes)) = some (some (.agg #[.string ⟨#[]⟩, .int .i64 0]), 2, 24) := by kernel_rfl
theorem topV_flat (L : Tops) : (L.flatMap topV).length = L.length * 2 := by
  induction L with
  | nil => rfl
  | cons x L ih =>
    rw [List.flatMap_cons, List.length_append, ih, List.length_cons]
    show 2 + _ = _
    omega
theorem topV_cells (L : Tops) : ∀ u ∈ L.flatMap topV, u.oneCell' = true := by
  intro u hu
  obtain ⟨t, _, ht⟩ := List.mem_flatMap.1 hu
  simp [topV] at ht
  rcases ht with rfl | rfl <;> rfl
theorem ownsRow_low {W : World} {base base' : Nat} {e : TypeId} {size : Nat} {v : Value} {k : Nat} {xs : List Value} (h : W.ownsRow base e size v k xs) (hb : base' ≤ base) : W.ownsRow base' e size v k xs := by
  refine ⟨h.1, ?_⟩
  rcases h.2 with hn | ⟨g, cap, cur, hv, hbg, rest⟩
  · exact .inl hn
  · exact .inr ⟨g, cap, cur, hv, Nat.le_trans hb hbg, rest⟩

theorem blk_cells {w : World} {b : Nat} {x y : Value} {t : TypeId} (h : Blk w b #[x, y] t) : ∀ (j : Nat) (u : Value), [x, y][j]? = some u → w.cell? ((⟨b, 0, none⟩ : Addr).add j) = some u := fun j u hj => by
  rw [Addr.add_mid, Nat.zero_add, h.cell]
  simpa using hj

theorem TClone_any {w : World} {base : Nat} {v : Value} {L : Tops} (h : w.ownsRow base 122 2 v L.length (L.flatMap topV)) (hl : L.length ≤ 1000) :
    Calls Tryz.prog 58 #[v] w fun e w' => ∃ v', e = .returned v' ∧ w'.ownsRow w.heap.size 122 2 v' L.length (L.flatMap topV) ∧ Below w.heap.size w w' := by
  have hq : ∀ (w : World) (a : Option Addr) (n c n' c' : Nat), (binOp .eql 78 (.slice a n c) (.slice none n' c')).run Tryz.prog w = .ok (.bool a.isNone) w := fun w a n c n' c' => Lib.run_eql_slice_nil w _ _ a n c n' c' Tryz.underlying78
  obtain ⟨i0, hi, hz0, hz1, hz2⟩ := info_parts topic_info
  rcases h.2 with ⟨rfl, h0⟩ | ⟨g, cap, cur, rfl, _⟩
  · have hL : L = [] := List.eq_nil_of_length_eq_zero h0
    subst hL
    clear h
    go_enter Tryz.func58, Tryz.ntmps58
    go_wp2
    go_ret
    exact ⟨_, rfl, World.ownsRow_nil .., Below.refl _ _⟩
  · have A : Hid (∀ j u, (L.flatMap topV)[j]? = some u → w.cell? ⟨g, 0 + j, none⟩ = some u) := Lib.hid fun j u hj => by
      have := h.cells (g := g) rfl j u hj
      rwa [Addr.add_mid] at this
    clear h
    go_enter Tryz.func58, Tryz.ntmps58
    go_wp2_with (at_builtin; refine wpList_append_own _ rfl _ _ 78 rfl w.heap.size 122 i0 _ 2 24 Tryz.underlying78 hi hz0 hz1 hz2 rfl (by decide) _ _ _ rfl (World.ownsRow_made w #[] 0 (Nat.le_refl _) (Nat.zero_le _) (by simp)) ⟨g, 0, none⟩ L.length cap (L.flatMap topV) rfl ?qc1 ?qc2 ?qc3 ?qc4 ?qc5 ?qc6 ?_)
    case qc1 => exact topV_flat L
    case qc2 =>
      intro j u hj
      rw [Addr.add_lit]
      exact Lib.cell?_alloc_some _ (A.out j u hj)
    case qc3 => exact topV_cells L
    case qc4 => rw [Nat.zero_add]; unfold maxLen; omega
    case qc5 => rw [Nat.zero_add]; omega
    case qc6 => simp
    intro v' w1 hown hgrow hnil
    go_wp2
    go_ret
    exact ⟨v', rfl, by simpa using hown, ((Below.refl _ w).alloc (Nat.le_refl _) _).grown hgrow (by simp) (by intro k hk; simp [Value.ownBlock] at hk; omega)⟩

theorem Add_good {χ : Col} {p d q : Nat} {L : Tops} {D : Dsk} {w : World} {n : List UInt8} (hT : IsTops χ 5 w p d L) (hd : IsDk χ 1 w d D) (hl : L.length < 6) (hfit : TopsFit (L ++ [(n, q)])) (hne : ∀ t ∈ L, t.1 ≠ n) (hp : plainF n = true) (h1 : 1 ≤ q) (h3 : q ≤ 3)
    (hn : D.names (topicsN ++ newL) = []) (hroom : 200 ≤ D.room) (hN : D.files.length ≤ 100000) (hW : D.waits.length ≤ 100000) :
    Calls Tryz.prog 24 #[.pointer (some ⟨p, 0, none⟩), .string (S n), .int .i64 (q : Int)] w fun e w' => e = .returned (.int .i64 0) ∧ ∃ χ', Stp (fun k => k = 5 ∨ k = 1) χ w χ' w' ∧
      IsTops χ' 5 w' p d (L ++ [(n, q)]) ∧ IsDk χ' 1 w' d (D.save topicsN (sealF (putT (L ++ [(n, q)])))) := by
  have hpl := putT_len hfit
  have hSv := fun {χ : Col} {W : World} (hd : IsDk χ 1 W d D) => Save_good (n := topicsN) (x := putT (L ++ [(n, q)])) hd (by decide) hn (by decide) (by omega) (by omega) hN hW
  have hPt := fun {W : World} {A : Option Addr} {cap : Nat} (hr : RTa W A (L ++ [(n, q)])) => put_tops (cap := cap) hr hfit
  obtain ⟨L', HL'⟩ : ∃ L', Hid (L' = L ++ [(n, q)]) := ⟨_, rfl⟩
  have hlen2 : L.length + 1 = L'.length := by rw [HL'.out]; simp
  rw [← HL'.out] at hSv hPt hpl ⊢
  obtain ⟨tv, h⟩ := hT
  obtain ⟨A, cap, rfl⟩ := row_any h.row
  have HR := Lib.hid (RTa_of_row h.row)
  have hRg := fun {W : World} (hr : RTa W A L) => right_good (cap := cap) hr hl hne hp h1 h3
  have hB1 := (Below.refl w.heap.size w).alloc (Nat.le_refl _) (.cells #[.string (S n), .int .i64 (q : Int)] 122)
  have HBN := Lib.hid (Blk.new w #[.string (S n), .int .i64 (q : Int)] 122)
  have HB1 := Lib.hid hB1.drew
  have hplt := h.own.1.lt
  have e0 := And.intro (HB1.out.cell (p := ⟨p, 1, none⟩) hplt |>.trans (h.own.1.cell 1)) (And.intro (HBN.out.drew.cell 0) (HBN.out.drew.cell 1))
  have H := Lib.hid h
  have HD := Lib.hid hd
  clear h hd hB1 hne hp hfit hn
  go_enter Tryz.func24, Tryz.ntmps24
  go_wp2_with (fail)
  refine wp_region_held_drew (S := fun w' => w'.cell? ⟨p, 1, none⟩ = some (.slice A L.length cap) ∧ w'.cell? ⟨w.heap.size, 0, none⟩ = some (.string (S n)) ∧ w'.cell? ⟨w.heap.size, 1, none⟩ = some (.int .i64 (q : Int))) (by kernel_rfl) e0 (fun hHeld => ?_)
  have HB2 := HB1
  have HBN2 := Lib.hid HBN.out.drew
  generalize (w.alloc (.cells #[.string (S n), .int .i64 (q : Int)] 122)).drew = w2 at *
  clear e0 HB1 HBN
  refine wpAnyH_take (i := 0) (oi := ⟨some 16, _, _, _, _, _⟩) (v := ?_) rfl (by kernel_rfl) (by kernel_rfl) (by kernel_rfl) (fun _ _ _ h => h) (Or.inl ⟨by rfl, (by intro w hSw; (try dsimp only at hSw); go_simp; try with_reducible rfl)⟩) hHeld ?_
  try simp only [Act.put, List.setIfInBounds_toArray, List.set_cons_zero, List.set_cons_succ]
  refine wpAnyH_take (i := 4) (oi := ⟨some 20, _, _, _, _, _⟩) (v := ?_) rfl (by kernel_rfl) (by kernel_rfl) (by kernel_rfl) (fun _ _ _ h => h) (Or.inl ⟨by rfl, (by intro w hSw; (try dsimp only at hSw); go_simp; try with_reducible rfl)⟩) hHeld ?_
  try simp only [Act.put, List.setIfInBounds_toArray, List.set_cons_zero, List.set_cons_succ]
  refine wpAnyH_take (i := 1) (oi := ⟨some 17, _, _, _, _, _⟩) (v := ?_) rfl (by kernel_rfl) (by kernel_rfl) (by kernel_rfl) (fun _ _ _ h => h) (Or.inl ⟨by rfl, (by intro w hSw; (try dsimp only at hSw); go_simp; try with_reducible rfl)⟩) hHeld ?_
  try simp only [Act.put, List.setIfInBounds_toArray, List.set_cons_zero, List.set_cons_succ]
  refine wpAnyH_take (i := 2) (oi := ⟨some 18, _, _, _, _, _⟩) (v := ?_) rfl (by kernel_rfl) (by kernel_rfl) (by kernel_rfl) (fun _ _ _ h => h) (Or.inl ⟨by rfl, (by intro w hSw; (try dsimp only at hSw); go_simp; try with_reducible rfl)⟩) hHeld ?_
  try simp only [Act.put, List.setIfInBounds_toArray, List.set_cons_zero, List.set_cons_succ]
  refine wpAnyH_take (i := 3) (oi := ⟨some 19, _, _, _, _, _⟩) (v := ?_) rfl (by kernel_rfl) (by kernel_rfl) (by kernel_rfl) (fun _ _ _ h => h) (Or.inl ⟨by rfl, (by intro w hSw; (try dsimp only at hSw); go_simp; try with_reducible rfl)⟩) hHeld ?_
  try simp only [Act.put, List.setIfInBounds_toArray, List.set_cons_zero, List.set_cons_succ]
  refine wpAnyH_ready (rs := [5]) (by kernel_rfl) (by simp) ?_
  refine AllReadyH.cons (o := ⟨some 21, _, _, _, _, _⟩) rfl (fun K hK => ?_) AllReadyH.nil
  go_simp
  refine (hRg (HR.out.below HB2.out)).mono ?_
  rintro e w3 ⟨rfl, hb⟩
  have HB3 := Lib.hid (HB2.out.trans (hb.mono HB2.out.size))
  have HBN3 := Lib.hid (HBN2.out.below hb)
  have hS2 := And.intro ((HB3.out.cell (p := ⟨p, 1, none⟩) hplt).trans (H.out.own.1.cell 1)) (And.intro (HBN3.out.cell 0) (HBN3.out.cell 1))
  refine hK.out _ _ hS2 (fun hHeld => ?_)
  clear hK K
  try simp only [Act.put, List.setIfInBounds_toArray, List.set_cons_zero, List.set_cons_succ]
  refine wpAnyH_take (i := 6) (oi := ⟨some 8, _, _, _, _, _⟩) (v := ?_) rfl (by kernel_rfl) (by kernel_rfl) (by kernel_rfl) (fun _ _ _ h => h) (Or.inl ⟨by rfl, (by intro w hSw; (try dsimp only at hSw); go_simp; try with_reducible rfl)⟩) hHeld ?_
  try simp only [Act.put, List.setIfInBounds_toArray, List.set_cons_zero, List.set_cons_succ]
  refine wpAnyH_done (by kernel_rfl) ?_ _
  clear hHeld hS2 hb HB2 HBN2 hRg
  go_wp2_with (fail)
  have hrow := ownsRow_stp (C := fun _ => False) (χ := χ) H.out.row (Stp.of_below (HB3.out.drew)) (fun _ _ h => h)
  have HB4 := Lib.hid HB3.out.drew
  have HBN4 := Lib.hid HBN3.out.drew
  have e0 : Below w3.drew.heap.size w3.drew w3.drew ∧ _ := And.intro (Below.refl _ _) (And.intro ((HB4.out.cell (p := ⟨p, 1, none⟩) hplt).trans (H.out.own.1.cell 1)) (And.intro (HBN4.out.cell 0) (HBN4.out.cell 1)))
  refine wp_region_held_drew (S := fun w' => Below w3.drew.heap.size w3.drew w' ∧ w'.cell? ⟨p, 1, none⟩ = some (.slice A L.length cap) ∧ w'.cell? ⟨w.heap.size, 0, none⟩ = some (.string (S n)) ∧ w'.cell? ⟨w.heap.size, 1, none⟩ = some (.int .i64 (q : Int))) (by kernel_rfl) e0 (fun hHeld => ?_)
  generalize w3.drew = w4 at *
  obtain ⟨i0, hi, hz0, hz1, hz2⟩ := info_parts topic_info
  have hplt4 : p < w4.heap.size := Nat.lt_of_lt_of_le hplt HB4.out.size
  have hmx : L.length + 1 ≤ maxLen := by unfold maxLen; omega
  have hby : (L.length + 1) * 24 ≤ 140737488355328 := by omega
  clear e0 HB3 HBN3
  refine wpAnyH_take (i := 0) (oi := ⟨some 25, _, _, _, _, _⟩) (v := ?_) rfl (by kernel_rfl) (by kernel_rfl) (by kernel_rfl) (fun _ _ _ h => h) (Or.inl ⟨by rfl, (by intro w hSw; (try dsimp only at hSw); go_simp; try with_reducible rfl)⟩) hHeld ?_
  try simp only [Act.put, List.setIfInBounds_toArray, List.set_cons_zero, List.set_cons_succ]
  refine wpAnyH_take (i := 1) (oi := ⟨some 26, _, _, _, _, _⟩) (v := ?_) rfl (by kernel_rfl) (by kernel_rfl) (by kernel_rfl) (fun _ _ _ h => h) (Or.inl ⟨by rfl, (by intro w hSw; (try dsimp only at hSw); go_simp; try with_reducible rfl)⟩) hHeld ?_
  try simp only [Act.put, List.setIfInBounds_toArray, List.set_cons_zero, List.set_cons_succ]
  refine wpAnyH_take (i := 2) (oi := ⟨some 27, _, _, _, _, _⟩) (v := ?_) rfl (by kernel_rfl) (by kernel_rfl) (by kernel_rfl) (fun _ _ _ h => h) (Or.inl ⟨by rfl, (by intro w hSw; (try dsimp only at hSw); go_simp; try with_reducible rfl)⟩) hHeld ?_
  try simp only [Act.put, List.setIfInBounds_toArray, List.set_cons_zero, List.set_cons_succ]
  refine wpAnyH_take (i := 3) (oi := ⟨some 28, _, _, _, _, _⟩) (v := ?_) rfl (by kernel_rfl) (by kernel_rfl) (by kernel_rfl) (fun _ _ _ h => h) (Or.inl ⟨by rfl, (by intro w hSw; (try dsimp only at hSw); go_simp; try with_reducible rfl)⟩) hHeld ?_
  try simp only [Act.put, List.setIfInBounds_toArray, List.set_cons_zero, List.set_cons_succ]
  refine wpAnyH_take (i := 5) (oi := ⟨some 30, _, _, _, _, _⟩) (v := ?_) rfl (by kernel_rfl) (by kernel_rfl) (by kernel_rfl) (fun _ _ _ h => h) (Or.inl ⟨by rfl, (by intro w hSw; (try dsimp only at hSw); go_simp; try with_reducible rfl)⟩) hHeld ?_
  try simp only [Act.put, List.setIfInBounds_toArray, List.set_cons_zero, List.set_cons_succ]
  refine wpAnyH_ready (rs := [4, 6]) (by kernel_rfl) (by simp) ?_
  refine (AllReadyH.cons (o := ⟨some 29, _, _, _, _, _⟩) rfl (fun K hK => ?_) (AllReadyH.cons (o := ⟨some 31, _, _, _, _, _⟩) rfl (fun K hK => ?_) AllReadyH.nil))
  · go_simp
    refine (TClone_any (ownsRow_stp (C := fun _ => False) (χ := χ) hrow (Stp.of_below hHeld.1) (fun _ _ h => h)) (by omega)).mono ?_
    rintro e wc ⟨vc, rfl, hcl, hbc⟩
    have hcl := ownsRow_low (base' := w4.heap.size) hcl hHeld.1.size
    have hb5 := hHeld.1.trans (hbc.mono hHeld.1.size)
    have hS2 := And.intro hb5 (And.intro ((hb5.cell (p := ⟨p, 1, none⟩) hplt4).trans ((HB4.out.cell (p := ⟨p, 1, none⟩) hplt).trans (H.out.own.1.cell 1))) (And.intro ((HBN4.out.below hb5).cell 0) ((HBN4.out.below hb5).cell 1)))
    refine hK.out _ _ hS2 (fun hHeld => ?_)
    clear hK K
    try simp only [Act.put, List.setIfInBounds_toArray, List.set_cons_zero, List.set_cons_succ]
    refine wpAnyH_ready (rs := [6]) (by kernel_rfl) (by simp) ?_
    refine (AllReadyH.cons (o := ⟨some 31, _, _, _, _, _⟩) rfl (fun K hK => ?_) AllReadyH.nil)
    go_simp
    have hb5 := hHeld.1.alloc hHeld.1.size (.cells #[.string (S n), .int .i64 (q : Int)] 122)
    have hS2 := And.intro hb5 (And.intro ((hb5.cell (p := ⟨p, 1, none⟩) hplt4).trans ((HB4.out.cell (p := ⟨p, 1, none⟩) hplt).trans (H.out.own.1.cell 1))) (And.intro ((HBN4.out.below hb5).cell 0) ((HBN4.out.below hb5).cell 1)))
    refine hK.out _ _ hS2 (fun hHeld => ?_)
    clear hK K
    try simp only [Act.put, List.setIfInBounds_toArray, List.set_cons_zero, List.set_cons_succ]
    refine wpAnyH_ready (rs := [7]) (by kernel_rfl) (by simp) ?_
    refine (AllReadyH.cons (o := ⟨some 32, _, _, _, _, _⟩) rfl (fun K hK => ?_) AllReadyH.nil)
    first | (have hown1 := hcl.alloc (.cells #[.string (S n), .int .i64 (q : Int)] 122); have hbs := Blk.new wc #[.string (S n), .int .i64 (q : Int)] 122; refine held_append_own rfl _ _ 78 rfl w4.heap.size 122 i0 _ 2 24 Tryz.underlying78 hi hz0 hz1 hz2 rfl (by decide) vc L.length _ rfl hown1 ⟨wc.heap.size, 0, none⟩ 1 1 [.string (S n), .int .i64 (q : Int)] rfl rfl (blk_cells hbs) (by simp [Value.oneCell']) hmx hby hHeld.1.size ?_) | (have hown1 := hcl; have hbs := (Blk.new w4 #[.string (S n), .int .i64 (q : Int)] 122).below hbc; refine held_append_own rfl _ _ 78 rfl w4.heap.size 122 i0 _ 2 24 Tryz.underlying78 hi hz0 hz1 hz2 rfl (by decide) vc L.length _ rfl hown1 ⟨w4.heap.size, 0, none⟩ 1 1 [.string (S n), .int .i64 (q : Int)] rfl rfl (blk_cells hbs) (by simp [Value.oneCell']) hmx hby hHeld.1.size ?_)
    intro v5 w5 hown5 hgrow5 _ _
    have hb6 := hHeld.1.grown hgrow5 hHeld.1.size (fun k e => (hown1.lt k e).1)
    have hS2 := And.intro hb6 (And.intro ((hb6.cell (p := ⟨p, 1, none⟩) hplt4).trans ((HB4.out.cell (p := ⟨p, 1, none⟩) hplt).trans (H.out.own.1.cell 1))) (And.intro ((HBN4.out.below hb6).cell 0) ((HBN4.out.below hb6).cell 1)))
    refine hK.out _ _ hS2 (fun hHeld => ?_)
    clear hK K
    try simp only [Act.put, List.setIfInBounds_toArray, List.set_cons_zero, List.set_cons_succ]
    refine wpAnyH_take (i := 8) (oi := ⟨some 9, _, _, _, _, _⟩) (v := ?_) rfl (by kernel_rfl) (by kernel_rfl) (by kernel_rfl) (fun _ _ _ h => h) (Or.inl ⟨by rfl, (by intro w hSw; (try dsimp only at hSw); go_simp; try with_reducible rfl)⟩) hHeld ?_
    try simp only [Act.put, List.setIfInBounds_toArray, List.set_cons_zero, List.set_cons_succ]
    refine wpAnyH_done (by kernel_rfl) ?_ _
    obtain ⟨g5, cap5, rfl⟩ := row_shape hown5
    have HO6 := Lib.hid (show w5.ownsRow w.heap.size 122 2 (.slice (some ⟨g5, 0, none⟩) L'.length cap5) L'.length (L'.flatMap topV) from by
      have := ownsRow_low hown5 HB4.out.size
      rw [HL'.out]
      simpa [List.flatMap_append, topV] using this)
    have hB5 := HB4.out.trans (hb6.mono HB4.out.size)
    have S5 := Lib.hid ((Stp.of_below (C := fun _ => False) (χ := χ) hB5.drew).paint (Nat.le_refl _) 5)
    have HD5 := Lib.hid (HD.out.stp S5.out (fun h => h))
    have HT5 := Lib.hid (H.out.own.stp S5.out (fun h => h))
    clear hown5 hgrow5 hb6 hB5 hS2 hHeld hown1 hbs hcl hbc hb5 hrow HB4 HBN4 HD
    rw [hlen2] at *
    go_wp2_with (fail)
    have e0 := HT5.out.1.cell 0
    refine wp_region_held_drew (S := fun w' => w'.cell? ⟨p, 0, none⟩ = some (.pointer (some ⟨d, 0, none⟩))) (by kernel_rfl) e0 (fun hHeld => ?_)
    have HO7 := Lib.hid (show w5.drew.ownsRow w.heap.size 122 2 (.slice (some ⟨g5, 0, none⟩) L'.length cap5) L'.length (L'.flatMap topV) from HO6.out)
    generalize w5.drew = w6 at *
    clear HO6 e0
    refine wpAnyH_take (i := 0) (oi := ⟨some 33, _, _, _, _, _⟩) (v := ?_) rfl (by kernel_rfl) (by kernel_rfl) (by kernel_rfl) (fun _ _ _ h => h) (Or.inl ⟨by rfl, (by intro w hSw; (try dsimp only at hSw); go_simp; try with_reducible rfl)⟩) hHeld ?_
    try simp only [Act.put, List.setIfInBounds_toArray, List.set_cons_zero, List.set_cons_succ]
    refine wpAnyH_take (i := 4) (oi := ⟨some 37, _, _, _, _, _⟩) (v := ?_) rfl (by kernel_rfl) (by kernel_rfl) (by kernel_rfl) (fun _ _ _ h => h) (Or.inl ⟨by rfl, (by intro w hSw; (try dsimp only at hSw); go_simp; try with_reducible rfl)⟩) hHeld ?_
    try simp only [Act.put, List.setIfInBounds_toArray, List.set_cons_zero, List.set_cons_succ]
    refine wpAnyH_take (i := 1) (oi := ⟨some 34, _, _, _, _, _⟩) (v := ?_) rfl (by kernel_rfl) (by kernel_rfl) (by kernel_rfl) (fun _ _ _ h => h) (Or.inl ⟨by rfl, (by intro w hSw; (try dsimp only at hSw); go_simp; try with_reducible rfl)⟩) hHeld ?_
    try simp only [Act.put, List.setIfInBounds_toArray, List.set_cons_zero, List.set_cons_succ]
    refine wpAnyH_take (i := 2) (oi := ⟨some 35, _, _, _, _, _⟩) (v := ?_) rfl (by kernel_rfl) (by kernel_rfl) (by kernel_rfl) (fun _ _ _ h => h) (Or.inl ⟨by rfl, (by intro w hSw; (try dsimp only at hSw); go_simp; try with_reducible rfl)⟩) hHeld ?_
    try simp only [Act.put, List.setIfInBounds_toArray, List.set_cons_zero, List.set_cons_succ]
    refine wpAnyH_take (i := 3) (oi := ⟨some 36, _, _, _, _, _⟩) (v := ?_) rfl (by kernel_rfl) (by kernel_rfl) (by kernel_rfl) (fun _ _ _ h => h) (Or.inl ⟨by rfl, (by intro w hSw; (try dsimp only at hSw); go_simp; try with_reducible rfl)⟩) hHeld ?_
    try simp only [Act.put, List.setIfInBounds_toArray, List.set_cons_zero, List.set_cons_succ]
    refine wpAnyH_ready (rs := [5]) (by kernel_rfl) (by simp) ?_
    refine AllReadyH.cons (o := ⟨some 38, _, _, _, _, _⟩) rfl (fun K hK => ?_) AllReadyH.nil
    go_simp
    refine (hPt (RTa_of_row HO7.out)).mono ?_
    rintro e w7 ⟨rfl, hb⟩
    have HD7 := Lib.hid (HD5.out.below hb)
    have HT7 := Lib.hid (HT5.out.stp (C := fun _ => False) (Stp.of_below hb) (fun h => h))
    have HO8 := Lib.hid (ownsRow_stp (C := fun _ => False) (χ := χ) HO7.out (Stp.of_below hb) (fun _ _ h => h))
    have S7 := Lib.hid (S5.out.trans (Stp.of_below hb))
    have hS2 := HT7.out.1.cell 0
    refine hK.out _ _ hS2 (fun hHeld => ?_)
    clear hK K
    try simp only [Act.put, List.setIfInBounds_toArray, List.set_cons_zero, List.set_cons_succ]
    refine wpAnyH_ready (rs := [6]) (by kernel_rfl) (by simp) ?_
    refine AllReadyH.cons (o := ⟨some 39, _, _, _, _, _⟩) rfl (fun K hK => ?_) AllReadyH.nil
    go_simp
    refine (hSv HD7.out).mono ?_
    rintro e w8 ⟨rfl, χ8, s8, hd8⟩
    have HT8 := Lib.hid (HT7.out.stp s8 (by decide))
    have hS2 := HT8.out.1.cell 0
    refine hK.out _ _ hS2 (fun hHeld => ?_)
    clear hK K
    try simp only [Act.put, List.setIfInBounds_toArray, List.set_cons_zero, List.set_cons_succ]
    refine wpAnyH_take (i := 7) (oi := ⟨some 10, _, _, _, _, _⟩) (v := ?_) rfl (by kernel_rfl) (by kernel_rfl) (by kernel_rfl) (fun _ _ _ h => h) (Or.inl ⟨by rfl, (by intro w hSw; (try dsimp only at hSw); go_simp; try with_reducible rfl)⟩) hHeld ?_
    try simp only [Act.put, List.setIfInBounds_toArray, List.set_cons_zero, List.set_cons_succ]
    refine wpAnyH_done (by kernel_rfl) ?_ _
    have hpt : ∀ g, (Value.slice (some ⟨g5, 0, none⟩) L'.length cap5).ownBlock = some g → paint χ w.heap.size 5 g = 5 := fun g hg => paint_new (HO8.out.lt g hg).1
    have HO9 := Lib.hid (ownsRow_stp HO8.out s8 (fun g hg => by rw [hpt g hg]; decide))
    have HC9 := Lib.hid (fun g (hg : (Value.slice (some ⟨g5, 0, none⟩) L'.length cap5).ownBlock = some g) => (s8.col g (HO8.out.lt g hg).2).trans (hpt g hg))
    have S9 := Lib.hid ((S7.out.mono (C' := fun k => k = 5 ∨ k = 1) fun k hk => hk.elim).trans (s8.mono fun k hk => Or.inr hk))
    have st := (Stp.refl (· = 5) χ8 w8).set (p := ⟨p, 1, none⟩) (.inl HT8.out.2) (.slice (some ⟨g5, 0, none⟩) L'.length cap5)
    have HD9 := Lib.hid (hd8.stp st (by decide))
    have HT9 := Lib.hid (show CBlk χ8 5 _ p _ _ from ⟨HT8.out.1.set 1 (.slice (some ⟨g5, 0, none⟩) L'.length cap5), HT8.out.2⟩)
    have hne := HT8.out.1.ne_row HO9.out (by decide)
    have c1 := HT8.out.1.cell 1
    have f1 := HT8.out.1.frozen 1
    have HO10 := Lib.hid (ownsRow_gr HO9.out ((Gr.refl (fun k => k = p) w8).set (p := ⟨p, 1, none⟩) (.inl rfl) (.slice (some ⟨g5, 0, none⟩) L'.length cap5)) (fun g hg e => hne (by rw [hg, e])))
    have ST := Lib.hid (S9.out.trans (st.mono fun k hk => Or.inl hk))
    clear hS2 hHeld s8 hd8 st hb HT5 HT7 HD5 HD7 HO7 HO8 hpt hne S5 S7
    go_wp2_with (fail)
    go_ret
    exact ⟨rfl, χ8, ST.out, ⟨_, HT9.out, ownsRow_low HO10.out (Nat.zero_le _), HC9.out⟩, HD9.out⟩
  · go_simp
    have hb5 := hHeld.1.alloc hHeld.1.size (.cells #[.string (S n), .int .i64 (q : Int)] 122)
    have hS2 := And.intro hb5 (And.intro ((hb5.cell (p := ⟨p, 1, none⟩) hplt4).trans ((HB4.out.cell (p := ⟨p, 1, none⟩) hplt).trans (H.out.own.1.cell 1))) (And.intro ((HBN4.out.below hb5).cell 0) ((HBN4.out.below hb5).cell 1)))
    refine hK.out _ _ hS2 (fun hHeld => ?_)
    clear hK K
    try simp only [Act.put, List.setIfInBounds_toArray, List.set_cons_zero, List.set_cons_succ]
    refine wpAnyH_ready (rs := [4]) (by kernel_rfl) (by simp) ?_
    refine (AllReadyH.cons (o := ⟨some 29, _, _, _, _, _⟩) rfl (fun K hK => ?_) AllReadyH.nil)
    go_simp
    refine (TClone_any (ownsRow_stp (C := fun _ => False) (χ := χ) hrow (Stp.of_below hHeld.1) (fun _ _ h => h)) (by omega)).mono ?_
    rintro e wc ⟨vc, rfl, hcl, hbc⟩
    have hcl := ownsRow_low (base' := w4.heap.size) hcl hHeld.1.size
    have hb5 := hHeld.1.trans (hbc.mono hHeld.1.size)
    have hS2 := And.intro hb5 (And.intro ((hb5.cell (p := ⟨p, 1, none⟩) hplt4).trans ((HB4.out.cell (p := ⟨p, 1, none⟩) hplt).trans (H.out.own.1.cell 1))) (And.intro ((HBN4.out.below hb5).cell 0) ((HBN4.out.below hb5).cell 1)))
    refine hK.out _ _ hS2 (fun hHeld => ?_)
    clear hK K
    try simp only [Act.put, List.setIfInBounds_toArray, List.set_cons_zero, List.set_cons_succ]
    refine wpAnyH_ready (rs := [7]) (by kernel_rfl) (by simp) ?_
    refine (AllReadyH.cons (o := ⟨some 32, _, _, _, _, _⟩) rfl (fun K hK => ?_) AllReadyH.nil)
    first | (have hown1 := hcl.alloc (.cells #[.string (S n), .int .i64 (q : Int)] 122); have hbs := Blk.new wc #[.string (S n), .int .i64 (q : Int)] 122; refine held_append_own rfl _ _ 78 rfl w4.heap.size 122 i0 _ 2 24 Tryz.underlying78 hi hz0 hz1 hz2 rfl (by decide) vc L.length _ rfl hown1 ⟨wc.heap.size, 0, none⟩ 1 1 [.string (S n), .int .i64 (q : Int)] rfl rfl (blk_cells hbs) (by simp [Value.oneCell']) hmx hby hHeld.1.size ?_) | (have hown1 := hcl; have hbs := (Blk.new w4 #[.string (S n), .int .i64 (q : Int)] 122).below hbc; refine held_append_own rfl _ _ 78 rfl w4.heap.size 122 i0 _ 2 24 Tryz.underlying78 hi hz0 hz1 hz2 rfl (by decide) vc L.length _ rfl hown1 ⟨w4.heap.size, 0, none⟩ 1 1 [.string (S n), .int .i64 (q : Int)] rfl rfl (blk_cells hbs) (by simp [Value.oneCell']) hmx hby hHeld.1.size ?_)
    intro v5 w5 hown5 hgrow5 _ _
    have hb6 := hHeld.1.grown hgrow5 hHeld.1.size (fun k e => (hown1.lt k e).1)
    have hS2 := And.intro hb6 (And.intro ((hb6.cell (p := ⟨p, 1, none⟩) hplt4).trans ((HB4.out.cell (p := ⟨p, 1, none⟩) hplt).trans (H.out.own.1.cell 1))) (And.intro ((HBN4.out.below hb6).cell 0) ((HBN4.out.below hb6).cell 1)))
    refine hK.out _ _ hS2 (fun hHeld => ?_)
    clear hK K
    try simp only [Act.put, List.setIfInBounds_toArray, List.set_cons_zero, List.set_cons_succ]
    refine wpAnyH_take (i := 8) (oi := ⟨some 9, _, _, _, _, _⟩) (v := ?_) rfl (by kernel_rfl) (by kernel_rfl) (by kernel_rfl) (fun _ _ _ h => h) (Or.inl ⟨by rfl, (by intro w hSw; (try dsimp only at hSw); go_simp; try with_reducible rfl)⟩) hHeld ?_
    try simp only [Act.put, List.setIfInBounds_toArray, List.set_cons_zero, List.set_cons_succ]
    refine wpAnyH_done (by kernel_rfl) ?_ _
    obtain ⟨g5, cap5, rfl⟩ := row_shape hown5
    have HO6 := Lib.hid (show w5.ownsRow w.heap.size 122 2 (.slice (some ⟨g5, 0, none⟩) L'.length cap5) L'.length (L'.flatMap topV) from by
      have := ownsRow_low hown5 HB4.out.size
      rw [HL'.out]
      simpa [List.flatMap_append, topV] using this)
    have hB5 := HB4.out.trans (hb6.mono HB4.out.size)
    have S5 := Lib.hid ((Stp.of_below (C := fun _ => False) (χ := χ) hB5.drew).paint (Nat.le_refl _) 5)
    have HD5 := Lib.hid (HD.out.stp S5.out (fun h => h))
    have HT5 := Lib.hid (H.out.own.stp S5.out (fun h => h))
    clear hown5 hgrow5 hb6 hB5 hS2 hHeld hown1 hbs hcl hbc hb5 hrow HB4 HBN4 HD
    rw [hlen2] at *
    go_wp2_with (fail)
    have e0 := HT5.out.1.cell 0
    refine wp_region_held_drew (S := fun w' => w'.cell? ⟨p, 0, none⟩ = some (.pointer (some ⟨d, 0, none⟩))) (by kernel_rfl) e0 (fun hHeld => ?_)
    have HO7 := Lib.hid (show w5.drew.ownsRow w.heap.size 122 2 (.slice (some ⟨g5, 0, none⟩) L'.length cap5) L'.length (L'.flatMap topV) from HO6.out)
    generalize w5.drew = w6 at *
    clear HO6 e0
    refine wpAnyH_take (i := 0) (oi := ⟨some 33, _, _, _, _, _⟩) (v := ?_) rfl (by kernel_rfl) (by kernel_rfl) (by kernel_rfl) (fun _ _ _ h => h) (Or.inl ⟨by rfl, (by intro w hSw; (try dsimp only at hSw); go_simp; try with_reducible rfl)⟩) hHeld ?_
    try simp only [Act.put, List.setIfInBounds_toArray, List.set_cons_zero, List.set_cons_succ]
    refine wpAnyH_take (i := 4) (oi := ⟨some 37, _, _, _, _, _⟩) (v := ?_) rfl (by kernel_rfl) (by kernel_rfl) (by kernel_rfl) (fun _ _ _ h => h) (Or.inl ⟨by rfl, (by intro w hSw; (try dsimp only at hSw); go_simp; try with_reducible rfl)⟩) hHeld ?_
    try simp only [Act.put, List.setIfInBounds_toArray, List.set_cons_zero, List.set_cons_succ]
    refine wpAnyH_take (i := 1) (oi := ⟨some 34, _, _, _, _, _⟩) (v := ?_) rfl (by kernel_rfl) (by kernel_rfl) (by kernel_rfl) (fun _ _ _ h => h) (Or.inl ⟨by rfl, (by intro w hSw; (try dsimp only at hSw); go_simp; try with_reducible rfl)⟩) hHeld ?_
    try simp only [Act.put, List.setIfInBounds_toArray, List.set_cons_zero, List.set_cons_succ]
    refine wpAnyH_take (i := 2) (oi := ⟨some 35, _, _, _, _, _⟩) (v := ?_) rfl (by kernel_rfl) (by kernel_rfl) (by kernel_rfl) (fun _ _ _ h => h) (Or.inl ⟨by rfl, (by intro w hSw; (try dsimp only at hSw); go_simp; try with_reducible rfl)⟩) hHeld ?_
    try simp only [Act.put, List.setIfInBounds_toArray, List.set_cons_zero, List.set_cons_succ]
    refine wpAnyH_take (i := 3) (oi := ⟨some 36, _, _, _, _, _⟩) (v := ?_) rfl (by kernel_rfl) (by kernel_rfl) (by kernel_rfl) (fun _ _ _ h => h) (Or.inl ⟨by rfl, (by intro w hSw; (try dsimp only at hSw); go_simp; try with_reducible rfl)⟩) hHeld ?_
    try simp only [Act.put, List.setIfInBounds_toArray, List.set_cons_zero, List.set_cons_succ]
    refine wpAnyH_ready (rs := [5]) (by kernel_rfl) (by simp) ?_
    refine AllReadyH.cons (o := ⟨some 38, _, _, _, _, _⟩) rfl (fun K hK => ?_) AllReadyH.nil
    go_simp
    refine (hPt (RTa_of_row HO7.out)).mono ?_
    rintro e w7 ⟨rfl, hb⟩
    have HD7 := Lib.hid (HD5.out.below hb)
    have HT7 := Lib.hid (HT5.out.stp (C := fun _ => False) (Stp.of_below hb) (fun h => h))
    have HO8 := Lib.hid (ownsRow_stp (C := fun _ => False) (χ := χ) HO7.out (Stp.of_below hb) (fun _ _ h => h))
    have S7 := Lib.hid (S5.out.trans (Stp.of_below hb))
    have hS2 := HT7.out.1.cell 0
    refine hK.out _ _ hS2 (fun hHeld => ?_)
    clear hK K
    try simp only [Act.put, List.setIfInBounds_toArray, List.set_cons_zero, List.set_cons_succ]
    refine wpAnyH_ready (rs := [6]) (by kernel_rfl) (by simp) ?_
    refine AllReadyH.cons (o := ⟨some 39, _, _, _, _, _⟩) rfl (fun K hK => ?_) AllReadyH.nil
    go_simp
    refine (hSv HD7.out).mono ?_
    rintro e w8 ⟨rfl, χ8, s8, hd8⟩
    have HT8 := Lib.hid (HT7.out.stp s8 (by decide))
    have hS2 := HT8.out.1.cell 0
    refine hK.out _ _ hS2 (fun hHeld => ?_)
    clear hK K
    try simp only [Act.put, List.setIfInBounds_toArray, List.set_cons_zero, List.set_cons_succ]
    refine wpAnyH_take (i := 7) (oi := ⟨some 10, _, _, _, _, _⟩) (v := ?_) rfl (by kernel_rfl) (by kernel_rfl) (by kernel_rfl) (fun _ _ _ h => h) (Or.inl ⟨by rfl, (by intro w hSw; (try dsimp only at hSw); go_simp; try with_reducible rfl)⟩) hHeld ?_
    try simp only [Act.put, List.setIfInBounds_toArray, List.set_cons_zero, List.set_cons_succ]
    refine wpAnyH_done (by kernel_rfl) ?_ _
    have hpt : ∀ g, (Value.slice (some ⟨g5, 0, none⟩) L'.length cap5).ownBlock = some g → paint χ w.heap.size 5 g = 5 := fun g hg => paint_new (HO8.out.lt g hg).1
    have HO9 := Lib.hid (ownsRow_stp HO8.out s8 (fun g hg => by rw [hpt g hg]; decide))
    have HC9 := Lib.hid (fun g (hg : (Value.slice (some ⟨g5, 0, none⟩) L'.length cap5).ownBlock = some g) => (s8.col g (HO8.out.lt g hg).2).trans (hpt g hg))
    have S9 := Lib.hid ((S7.out.mono (C' := fun k => k = 5 ∨ k = 1) fun k hk => hk.elim).trans (s8.mono fun k hk => Or.inr hk))
    have st := (Stp.refl (· = 5) χ8 w8).set (p := ⟨p, 1, none⟩) (.inl HT8.out.2) (.slice (some ⟨g5, 0, none⟩) L'.length cap5)
    have HD9 := Lib.hid (hd8.stp st (by decide))
    have HT9 := Lib.hid (show CBlk χ8 5 _ p _ _ from ⟨HT8.out.1.set 1 (.slice (some ⟨g5, 0, none⟩) L'.length cap5), HT8.out.2⟩)
    have hne := HT8.out.1.ne_row HO9.out (by decide)
    have c1 := HT8.out.1.cell 1
    have f1 := HT8.out.1.frozen 1
    have HO10 := Lib.hid (ownsRow_gr HO9.out ((Gr.refl (fun k => k = p) w8).set (p := ⟨p, 1, none⟩) (.inl rfl) (.slice (some ⟨g5, 0, none⟩) L'.length cap5)) (fun g hg e => hne (by rw [hg, e])))
    have ST := Lib.hid (S9.out.trans (st.mono fun k hk => Or.inl hk))
    clear hS2 hHeld s8 hd8 st hb HT5 HT7 HD5 HD7 HO7 HO8 hpt hne S5 S7
    go_wp2_with (fail)
    go_ret
    exact ⟨rfl, χ8, ST.out, ⟨_, HT9.out, ownsRow_low HO10.out (Nat.zero_le _), HC9.out⟩, HD9.out⟩

end Go.Proofs.YtnacjogdndggeaaGreatDoor
end

section
namespace Go.Proofs.YtnacjogdndggeaaGreatDoor
open Go.Shelf Go.RowKit Go.Lib
set_option maxRecDepth 100000
set_option maxHeartbeats 1000000

theorem Note_scheduled {χ : Col} {c p k : Nat} {L : Pends} {w : World} {m : Rec} {A : Option Addr} (h : IsPend χ c w p L) (id : Int) (h0 : 0 ≤ id) (h1 : id ≤ 1000000000) (hk : m.kind = 2) (hn : aget L id = none) (hl : L.length ≤ 1000000) :
    Calls Tryz.prog 85 #[.pointer (some ⟨p, 0, none⟩), .int .i64 id, .agg (recV m A k)] w fun e w' => e = .returned (.bool true) ∧ ∃ χ', Stp (· = c) χ w χ' w' ∧ IsPend χ' c w' p (aput (Lit.int .i64) id (1, m.due) L) := by
  obtain ⟨mp, h⟩ := h
  have hB := (Below.refl w.heap.size w).alloc (Nat.le_refl _) (.cells (recV m A k) 56)
  have s1 := Stp.of_below (C := (· = c)) (χ := χ) hB
  have hbn := Blk.new w (recV m A k) 56
  have i0 : ¬ id < 0 := by omega
  have h2 : PendAt χ c (w.alloc (.cells (recV m A k) 56)) p L mp := ⟨h.own.stp (C := fun _ => False) (Stp.of_below hB) (fun h => h), ownsMap_gr (F := fun _ => False) h.map (Gr.of_below hB) (fun h => h), h.cmap⟩
  have hlk := h2.lookup id (by omega) (by omega)
  rw [hn] at hlk
  change _ = Result.ok (Value.agg #[.int .i64 0, .int .i64 0]) _ at hlk
  have H2 := Lib.hid h2
  have HS1 := Lib.hid s1
  have HN := Lib.hid hn
  have e00 := h2.own.1.cell 0
  have hpm := h2.own.1.ne_map h2.map
  clear h h2 hB s1 hn
  simp only [recV] at *
  rw [hk] at *
  go_enter Tryz.func85, Tryz.ntmps85
  go_upto_region 1 with (fail)
  generalize w.alloc (.cells #[.int .i64 2, .int .i64 m.queue, .int .i64 m.due, .int .i64 m.retry, .int .i64 m.ref, .int .i64 m.born, .string (S m.topic), .string (S m.tag), .string (S m.body), .slice A m.keys.length k] 56) = w1 at *
  have e0 := hbn.cell 0
  have hq := eql_one w1
  have hgt : Tryz.prog.eqGuardType Tryz.prog.depth 107 = false := by kernel_rfl
  have HBN := Lib.hid hbn
  clear hbn
  go_wp2_with (fail)
  have hmap2 := ownsMap_gr (F := fun _ => False) H2.out.map ((Gr.refl (fun _ => False) w1).drew) (fun h => h)
  have HO2 := Lib.hid (show Blk w1.drew p _ _ from H2.out.own.1)
  have HN2 := Lib.hid (show Blk w1.drew w.heap.size _ _ from HBN.out)
  have e1 := And.intro (HO2.out.cell 0) (HN2.out.cell 2)
  have hcm := H2.out.cmap
  have hcp := H2.out.own.2
  have HS2 := Lib.hid HS1.out.drew
  have hpw : mp ≠ w.heap.size := fun e => HN2.out.ne_map hmap2 e.symm
  refine wp_region_held_drew (S := fun w' => w'.cell? ⟨p, 0, none⟩ = some (.map (some mp)) ∧ w'.cell? ⟨w.heap.size, 2, none⟩ = some (.int .i64 m.due)) (by kernel_rfl) e1 (fun hHeld => ?_)
  generalize w1.drew = w2 at *
  clear e0 e00 e1 hlk hq hgt HS1 HBN
  have hkey := Go.Maps.keyOf_int_mk Tryz.underlying3 (i64_wf (a := id) (by omega) (by omega))
  have hmx : L.length < maxLen := by unfold maxLen; omega
  obtain ⟨w5, hrun, hown5, hgrow5⟩ := hmap2.update pend_keyed Tryz.underlying105 hmx hkey (val := .agg #[.int .i64 1, .int .i64 m.due]) (d := .agg [.lit (.int .i64 1), .lit (.int .i64 m.due)]) (ps := []) rfl
  have hp5 := HO2.out.grown hgrow5 (fun e => hpm (by injection e with e; exact e.symm))
  have hb5 := HN2.out.grown hgrow5 (fun e => hpw (by injection e))
  refine wpAnyH_take (i := 0) (oi := ⟨some 37, _, _, _, _, _⟩) (v := ?_) rfl (by kernel_rfl) (by kernel_rfl) (by kernel_rfl) (fun _ _ _ h => h) (Or.inl ⟨by rfl, (by intro w hSw; (try dsimp only at hSw); go_simp; try with_reducible rfl)⟩) hHeld ?_
  try simp only [Act.put, List.setIfInBounds_toArray, List.set_cons_zero, List.set_cons_succ]
  refine wpAnyH_take (i := 4) (oi := ⟨some 41, _, _, _, _, _⟩) (v := ?_) rfl (by kernel_rfl) (by kernel_rfl) (by kernel_rfl) (fun _ _ _ h => h) (Or.inl ⟨by rfl, (by intro w hSw; (try dsimp only at hSw); go_simp; try with_reducible rfl)⟩) hHeld ?_
  try simp only [Act.put, List.setIfInBounds_toArray, List.set_cons_zero, List.set_cons_succ]
  refine wpAnyH_take (i := 5) (oi := ⟨some 42, _, _, _, _, _⟩) (v := ?_) rfl (by kernel_rfl) (by kernel_rfl) (by kernel_rfl) (fun _ _ _ h => h) (Or.inl ⟨by rfl, (by intro w hSw; (try dsimp only at hSw); go_simp; try with_reducible rfl)⟩) hHeld ?_
  try simp only [Act.put, List.setIfInBounds_toArray, List.set_cons_zero, List.set_cons_succ]
  refine wpAnyH_take (i := 1) (oi := ⟨some 38, _, _, _, _, _⟩) (v := ?_) rfl (by kernel_rfl) (by kernel_rfl) (by kernel_rfl) (fun _ _ _ h => h) (Or.inl ⟨by rfl, (by intro w hSw; (try dsimp only at hSw); go_simp; try with_reducible rfl)⟩) hHeld ?_
  try simp only [Act.put, List.setIfInBounds_toArray, List.set_cons_zero, List.set_cons_succ]
  refine wpAnyH_take (i := 6) (oi := ⟨some 43, _, _, _, _, _⟩) (v := ?_) rfl (by kernel_rfl) (by kernel_rfl) (by kernel_rfl) (fun _ _ _ h => h) (Or.inl ⟨by rfl, (by intro w hSw; (try dsimp only at hSw); go_simp; try with_reducible rfl)⟩) hHeld ?_
  try simp only [Act.put, List.setIfInBounds_toArray, List.set_cons_zero, List.set_cons_succ]
  refine wpAnyH_take (i := 2) (oi := ⟨some 39, _, _, _, _, _⟩) (v := ?_) rfl (by kernel_rfl) (by kernel_rfl) (by kernel_rfl) (fun _ _ _ h => h) (Or.inl ⟨by rfl, (by intro w hSw; (try dsimp only at hSw); go_simp; try with_reducible rfl)⟩) hHeld ?_
  try simp only [Act.put, List.setIfInBounds_toArray, List.set_cons_zero, List.set_cons_succ]
  refine wpAnyH_take (i := 7) (oi := ⟨some 44, _, _, _, _, _⟩) (v := ?_) rfl (by kernel_rfl) (by kernel_rfl) (by kernel_rfl) (fun _ _ _ h => h) (Or.inl ⟨by rfl, (by intro w hSw; (try dsimp only at hSw); go_simp; try with_reducible rfl)⟩) hHeld ?_
  try simp only [Act.put, List.setIfInBounds_toArray, List.set_cons_zero, List.set_cons_succ]
  refine wpAnyH_take (i := 3) (oi := ⟨some 40, _, _, _, _, _⟩) (v := ?_) rfl (by kernel_rfl) (by kernel_rfl) (by kernel_rfl) (fun _ _ _ h => h) (Or.inl ⟨by rfl, (by intro w hSw; (try dsimp only at hSw); go_simp; try with_reducible rfl)⟩) hHeld ?_
  try simp only [Act.put, List.setIfInBounds_toArray, List.set_cons_zero, List.set_cons_succ]
  refine wpAnyH_ready (rs := [8]) (by kernel_rfl) (by simp) ?_
  refine AllReadyH.cons (o := ⟨none, _, _, _, _, _⟩) rfl (fun K hK => ?_) AllReadyH.nil
  go_simp
  have hS2 := And.intro (hp5.cell 0) (hb5.cell 2)
  refine hK.out _ _ hS2 (fun hHeld => ?_)
  clear hK K
  try simp only [Act.put, List.setIfInBounds_toArray, List.set_cons_zero, List.set_cons_succ]
  refine wpAnyH_done (by kernel_rfl) ?_ _
  go_wp2_with (fail)
  go_ret
  have hlt := H2.out.own.1.lt
  refine ⟨rfl, χ, HS2.out.trans (Stp.of_grown hgrow5 fun k hk => .inl (by injection hk with hk; rw [← hk]; exact hcm)), mp, ⟨hp5, hcp⟩, ?_, hcm⟩
  have h1 : (pendD L).put (.int .i64 id) (.agg [.lit (.int .i64 1), .lit (.int .i64 m.due)]) = pendD (aput (Lit.int .i64) id (1, m.due) L) :=
    amap_put (fun _ (a : Int × Int) => (.agg [.lit (.int .i64 a.1), .lit (.int .i64 a.2)] : DataW Unit)) kfI id (1, m.due) L
  rw [h1] at hown5
  have h2 := ownsMap_tight hown5
  rwa [List.length_map] at h2

end Go.Proofs.YtnacjogdndggeaaGreatDoor
end

section
namespace Go.Proofs.YtnacjogdndggeaaGreatDoor
open Go.Shelf Go.RowKit Go.Lib
set_option maxRecDepth 100000
set_option maxHeartbeats 1000000
section
variable {χ : Col} {c cr cd t d : Nat} {T : TapeM} {D : Dsk} {w : World}

theorem End_tape (h : IsTape χ c cr w t d T) :
    Calls Tryz.prog 11 #[.pointer (some ⟨t, 0, none⟩)] w fun e w' => e = .returned (.int .i64 T.row.fin) ∧ w = w' := by
  obtain ⟨r, g, m, iv, h⟩ := h
  have hE := End_row h.row
  have c0 := h.own.1.cell 0
  clear h
  go_enter Tryz.func11, Tryz.ntmps11
  go_wp2_with (fail)
  refine hE.mono ?_
  rintro e w' ⟨rfl, rfl⟩
  clear hE
  go_wp2
  go_ret
  exact ⟨rfl, rfl⟩

theorem Synced_tape (h : IsTape χ c cr w t d T) :
    Calls Tryz.prog 220 #[.pointer (some ⟨t, 0, none⟩)] w fun e w' => e = .returned (.int .i64 T.row.synced) ∧ w = w' := by
  obtain ⟨r, g, m, iv, h⟩ := h
  have hE := Synced_row h.row
  have c0 := h.own.1.cell 0
  clear h
  go_enter Tryz.func220, Tryz.ntmps220
  go_wp2_with (fail)
  refine hE.mono ?_
  rintro e w' ⟨rfl, rfl⟩
  clear hE
  go_wp2
  go_ret
  exact ⟨rfl, rfl⟩

theorem Begin_tape (h : IsTape χ c cr w t d T) (hz : T.row.many = 0 → T.row.begin = 0) :
    Calls Tryz.prog 99 #[.pointer (some ⟨t, 0, none⟩)] w fun e w' => e = .returned (.int .i64 T.row.begin) ∧ w = w' := by
  obtain ⟨r, g, m, iv, h⟩ := h
  have hE := Begin_any h.row hz
  have c0 := h.own.1.cell 0
  clear h
  go_enter Tryz.func99, Tryz.ntmps99
  go_wp2_with (fail)
  refine hE.mono ?_
  rintro e w' ⟨rfl, rfl⟩
  clear hE
  go_wp2
  go_ret
  exact ⟨rfl, rfl⟩

theorem Sync_tape (h : IsTape χ c cr w t d T) (hd : IsDk χ cd w d D) (hon : T.row.On D) (ht : Tab χ w) (hcd : cr ≠ cd) (hcr : c ≠ cr) (hc : c ≠ cd) (hW : D.waits.length ≤ 1000000000) (hM : T.row.many ≤ 1000000) :
    Calls Tryz.prog 86 #[.pointer (some ⟨t, 0, none⟩)] w fun e w' => e = .returned (.int .i64 0) ∧
      ∃ χ', Stp (fun k => k = cr ∨ k = cd) χ w χ' w' ∧ IsTape χ' c cr w' t d { T with row := T.row.synced' } ∧ IsDk χ' cd w' d (T.row.syncD D) := by
  obtain ⟨r, g, m, iv, h⟩ := h
  have hS := Sync_row h.row hd hon ht hcd hW hM
  have c0 := h.own.1.cell 0
  have H := Lib.hid h
  clear h hd hon ht
  go_enter Tryz.func86, Tryz.ntmps86
  go_wp2_with (fail)
  refine hS.mono ?_
  rintro e w' ⟨rfl, χ2, s2, hr2, hd2⟩
  clear hS
  go_wp2
  go_ret
  exact ⟨rfl, χ2, s2, ⟨r, g, m, iv, H.out.withRow s2 (by omega) hr2⟩, hd2⟩
end
end Go.Proofs.YtnacjogdndggeaaGreatDoor
end
