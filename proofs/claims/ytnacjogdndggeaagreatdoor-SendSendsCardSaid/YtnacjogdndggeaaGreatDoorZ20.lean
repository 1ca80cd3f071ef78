/- Layer 5 (seg): fresh. -/
import Derived.Test.YtnacjogdndggeaaGreatDoorZ19
import Derived.Test.YtnacjogdndggeaaGreatDoorZ13
import Derived.Maps.AppendAt
section
namespace Go.Proofs.YtnacjogdndggeaaGreatDoor
open Go.Shelf Go.RowKit Go.Lib Go.BigFrame

/-- An append of a drawn region, by the law on owned rows. -/
theorem held_append_own {P : Program} {w : World} {ops : Array Oper} {a : Act} {o : Oper} {K Q} (hgd : o.guard = none) (s x : Operand) (t : TypeId)
    (ho : o.op = .call { callee := .builtin .append, args := #[s, x], argTypes := #[t, t] })
    (base : Nat) (e : TypeId) (i : TypeInfo) (z : Value) (size bytes : Nat) (ht : P.underlying t = some (.slice e)) (hi : P.info? e = some i) (hz : i.zero = some z)
    (hsize : i.size = size) (hby : i.bytes = bytes) (hzs : z.cells.size = size) (hsz : 0 < size)
    (v : Value) (n : Nat) (xs : List Value) (hs : a.eval s = v) (hown : w.ownsRow base e size v n xs)
    (ad : Addr) (m c : Nat) (news : List Value) (hx : a.eval x = .slice (some ad) m c) (hl : news.length = m * size) (hnews : ∀ j u, news[j]? = some u → w.cell? (ad.add j) = some u) (h1 : ∀ u ∈ news, u.oneCell' = true)
    (h63 : n + m ≤ maxLen) (hbytes : (n + m) * bytes ≤ 140737488355328) (hbase : base ≤ w.heap.size)
    (h : ∀ v' w', w'.ownsRow base e size v' (n + m) (xs ++ news) → w.grownBy w' v.ownBlock → (v' = .slice none 0 0 ↔ v = .slice none 0 0 ∧ m = 0) → (v'.ownBlock = v.ownBlock ∨ v'.ownBlock = some w.heap.size) → K (a.put o.dst v') w') :
    if Region.wanted o (yielded ops a.tmps) = true then Oper.wp P o a w K Q else K (a.put o.dst undef) w := by
  have hw : Region.wanted o (yielded ops a.tmps) = true := by
    unfold Region.wanted
    rw [hgd]
  rw [if_pos hw]
  obtain ⟨v', w', hr, h2, h3, h4, h5⟩ := run_append_own_at (P := P) w base t o.type e i z size bytes ht hi hz hsize hby hzs hsz v n xs hown ad m c news hl hnews h1 h63 hbytes hbase
  unfold Oper.wp execOp
  simp only [ho, resolve, invoke, builtin, Sem.run_bind, Sem.run_pure, Result.andThen_ok, List.map_toArray, List.map_cons, List.map_nil, hs, hx, hr]
  exact h v' w' h2 h3 h4 h5

theorem int_info : (Tryz.prog.info? 3).map (fun i => (i.zero, i.size, i.bytes)) = some (some (.int .i64 0), 1, 8) := by kernel_rfl

set_option maxRecDepth 100000
set_option maxHeartbeats 1000000

theorem fresh_not {χ : Col} {c r d : Nat} {R : RowM} {w : World} (h : IsRow χ c w r d R) (ho : R.Ok) (hf : R.full = false) :
    Calls Tryz.prog 206 #[.pointer (some ⟨r, 0, none⟩)] w fun e w' => e = .returned (.int .i64 0) ∧ ∃ n, w' = w.drewN n := by
  have hR := fun m => Room_row (w := w.drewN m) (h.drewN m) ho
  have hm := R.many_pos ho hf
  have hs := ho.size
  have hfin := ho.fin
  obtain ⟨hroom, hlt⟩ := R.room_some ho hf
  obtain ⟨pv, h⟩ := h
  obtain ⟨g, cap, rfl, cp⟩ := h.place (i := R.many - 1) (by omega)
  have c2 := h.own.1.cell 2
  have c3 := h.own.1.cell 3
  have c4 := h.own.1.cell 4
  have hpl := R.place_le ho hm
  have hpt := R.place_last hm
  have hmb : R.many ≤ 90000000 := by
    have h1 := ho.least (by omega)
    have h2 : R.bytes.length ≤ 90000000 := by unfold RowM.fin at hfin; omega
    have h3 : (R.many - 1) * 16 ≤ (R.many - 1) * R.size := Nat.mul_le_mul_left _ hs.1
    omega
  clear h ho hf
  have i1 : ((R.room : Int) < R.size) ↔ R.fin ≠ R.place (R.many - 1) := by omega
  clear hroom hpt hpl hlt
  have hmi : (0 : Int) < R.many := by omega
  have hmn : 0 < R.many := by omega
  have hmp : R.many - 1 < R.many := by omega
  generalize R.place R.many = pe at *
  generalize R.place (R.many - 1) = p at *
  generalize R.room = room at *
  generalize R.many = m at *
  generalize R.fin = f at *
  generalize R.size = sz at *
  by_cases e : f = p
  · subst e
    have i2 : ¬ room < sz := by omega
    have i3 : ¬ (room : Int) < sz := by omega
    clear i1
    have i4 : decide (room < sz) = false := decide_eq_false i2
    go_enter Tryz.func206, Tryz.ntmps206
    go_wp2
    go_quiet (exact Calls.quiet_of (hR _))
    go_wp2
    go_ret
    exact ⟨rfl, _, rfl⟩
  · have i2 : room < sz := by omega
    have i3 : (room : Int) < sz := by omega
    clear i1
    go_enter Tryz.func206, Tryz.ntmps206
    go_wp2
    go_quiet (exact Calls.quiet_of (hR _))
    go_wp2
    go_ret
    exact ⟨rfl, _, rfl⟩

theorem RowAt.drew {χ : Col} {c r d : Nat} {w : World} {R : RowM} {pv : Value} (h : RowAt χ c w r d R pv) : RowAt χ c w.drew r d R pv := h.drewN 1
/-- A place is put at the end of a row's places. -/
theorem RowAt.push {χ : Col} {c r d : Nat} {w w5 : World} {R : RowM} {pv v5 : Value} (h : RowAt χ c w r d R pv) (hnx : R.next = { R with many := R.many + 1 }) (hnp : R.next.places = R.places ++ [R.fin])
    (hgr : w.grownBy w5 pv.ownBlock) (hown5 : w5.ownsRow 0 3 1 v5 (R.many + 1) (natV R.places ++ [.int .i64 (R.fin : Int)]))
    (hat : v5.ownBlock = pv.ownBlock ∨ ∃ k, w.heap.size ≤ k ∧ v5.ownBlock = some k) :
    ∃ χ', Stp (· = c) χ w χ' (w5.setCell ⟨r, 3, none⟩ v5) ∧ RowAt χ' c (w5.setCell ⟨r, 3, none⟩ v5) r d R.next v5 := by
  have hlt := h.own.1.lt
  have hb5 := h.own.1.grown hgr h.ne
  have hv : ∀ g, v5.ownBlock = some g → g ≠ r ∧ paint χ w.heap.size c g = c := by
    intro g hg
    rcases hat with h1 | ⟨k, hk, h1⟩
    · rw [h1] at hg
      refine ⟨fun e => h.ne (by rw [hg, e]), ?_⟩
      rw [paint_old (h.row.lt g hg).2]
      exact h.crow g hg
    · rw [h1] at hg
      injection hg with hg
      exact ⟨by omega, paint_new (by omega)⟩
  refine ⟨paint χ w.heap.size c, ?_, ?_, ?_, fun g hg => (hv g hg).2⟩
  · have s1 : Stp (· = c) χ w χ w5 := Stp.of_grown hgr fun b hb => .inl (h.crow b hb)
    exact (s1.set (.inl h.own.2) _).paint (Nat.le_refl _) c
  · refine ⟨?_, (paint_old hlt).trans h.own.2⟩
    have := hb5.set 3 v5
    rw [hnx]
    exact this
  · rw [hnp]
    have hg : Gr (fun k => k = r) w5 (w5.setCell ⟨r, 3, none⟩ v5) := (Gr.refl (fun k => k = r) w5).set (p := ⟨r, 3, none⟩) (.inl rfl) v5
    have := ownsRow_gr hown5 hg fun g hg2 => (hv g hg2).1
    rw [hnx]
    unfold natV at *
    rw [List.map_append]
    exact this

theorem Create_next {χ : Col} {cd d : Nat} {R : RowM} {D : Dsk} {w : World} (hd : IsDk χ cd w d D) (hon : R.On D) (hf : R.full = true) (hN : D.files.length ≤ 1000000000) :
    Calls Tryz.prog 166 #[.pointer (some ⟨d, 0, none⟩), .string (S (segName R.head R.fin))] w fun e w' => e = .returned (.int .i64 0) ∧ ∃ χ', Stp (· = cd) χ w χ' w' ∧ IsDk χ' cd w' d (R.made D) := by
  have hp := (RowM.full_iff R).1 hf
  have hfin := hon.ok.fin
  have hl : (segName R.head R.fin).length ≤ 1000 := by
    rw [segName_length (by omega)]
    have := hon.ok.head
    omega
  have hn : D.file (segName R.head R.fin) = none := by
    rw [hp]
    exact hon.none R.many (Nat.le_refl _)
  have hc := Create_new hd hn hl hN
  have hm : R.made D = D.create (segName R.head R.fin) := by
    unfold RowM.made
    rw [if_pos hf]
    unfold RowM.name
    rw [← hp]
  rw [hm]
  exact hc

theorem fresh_full {χ : Col} {c cd r d : Nat} {R : RowM} {D : Dsk} {w : World} (h : IsRow χ c w r d R) (hd : IsDk χ cd w d D) (hon : R.On D) (ht : Tab χ w) (hf : R.full = true) (hc : c ≠ cd) (hN : D.files.length ≤ 1000000000) :
    Calls Tryz.prog 206 #[.pointer (some ⟨r, 0, none⟩)] w fun e w' => e = .returned (.int .i64 0) ∧ ∃ χ', Stp (fun k => k = c ∨ k = cd) χ w χ' w' ∧ IsRow χ' c w' r d R.next ∧ IsDk χ' cd w' d (R.made D) := by
  have ho := hon.ok
  have hR := fun m => Room_row (w := w.drewN m) (h.drewN m) ho
  rw [R.room_full hf] at hR
  have hs := ho.size
  have hfin := ho.fin
  have hfull := (RowM.full_iff R).1 hf
  have hNm := fun {W : World} (ht : Tab χ W) => Name_any (w := W) ht R.head R.fin (by omega) ho.head
  have hCr := fun {W : World} (hd : IsDk χ cd W d D) => Create_next hd hon hf hN
  have hmb : R.many ≤ 90000000 := by
    have h2 : R.bytes.length ≤ 90000000 := by unfold RowM.fin at hfin; omega
    have h3 : R.many * 16 ≤ R.many * R.size := Nat.mul_le_mul_left _ hs.1
    unfold RowM.fin RowM.place at hfull
    omega
  have hneq : 0 < R.many → R.fin ≠ R.place (R.many - 1) := fun hm => by
    have := R.place_last hm
    omega
  have hnx : R.next = { R with many := R.many + 1 } := RowM.next_full hf
  have hnp : R.next.places = R.places ++ [R.fin] := by rw [RowM.places_next, if_pos hf]
  have HI := Lib.hid h
  have HD := Lib.hid hd
  have HT := Lib.hid ht
  have HX := Lib.hid (And.intro hnx hnp)
  obtain ⟨pv, h⟩ := h
  have hpl := fun hm : 0 < R.many => h.place (i := R.many - 1) (by omega)
  obtain ⟨A, cap, rfl⟩ := row_any h.row
  have c1 := h.own.1.cell 1
  have c2 := h.own.1.cell 2
  have c3 := h.own.1.cell 3
  have c4 := h.own.1.cell 4
  clear h hd ht hon ho hnx hnp hfull hf
  go_enter Tryz.func206, Tryz.ntmps206
  go_wp2
  rcases Nat.eq_zero_or_pos R.many with hm | hm
  · rw [hm] at c3
    clear hm
    go_quiet (exact Calls.quiet_of (hR _))
    go_wp2_with (fail)
    have HI1 := Lib.hid (HI.out.drewN (nq + 1))
    have HT1 := Lib.hid (HT.out.drewN (nq + 1))
    have HD1 := Lib.hid (HD.out.below (below_drewN w (nq + 1)))
    have HB1 := Lib.hid (below_drewN w (nq + 1))
    have e1 : (w.drewN (nq + 1)).cell? ⟨r, 1, none⟩ = some (.string (S R.head)) ∧ (w.drewN (nq + 1)).cell? ⟨r, 4, none⟩ = some (.int .i64 R.fin) := ⟨c1, c4⟩
    refine wp_region_held_drew (S := fun w' => w'.cell? ⟨r, 1, none⟩ = some (.string (S R.head)) ∧ w'.cell? ⟨r, 4, none⟩ = some (.int .i64 R.fin)) (by kernel_rfl) e1 (fun hHeld => ?_)
    rw [show (w.drewN nq).drew = w.drewN (nq + 1) from rfl] at *
    generalize w.drewN (nq + 1) = w1 at *
    clear c1 c2 c3 c4 e1 HI HT HD
    refine wpAnyH_take (i := 0) (oi := ⟨some 41, _, _, _, _, _⟩) (v := ?_) rfl (by kernel_rfl) (by kernel_rfl) (by kernel_rfl) (fun _ _ _ h => h) (Or.inl ⟨by rfl, (by intro w hSw; (try dsimp only at hSw); go_simp; try with_reducible rfl)⟩) hHeld ?_
    try simp only [Act.put, List.setIfInBounds_toArray, List.set_cons_zero, List.set_cons_succ]
    refine wpAnyH_take (i := 1) (oi := ⟨some 42, _, _, _, _, _⟩) (v := ?_) rfl (by kernel_rfl) (by kernel_rfl) (by kernel_rfl) (fun _ _ _ h => h) (Or.inl ⟨by rfl, (by intro w hSw; (try dsimp only at hSw); go_simp; try with_reducible rfl)⟩) hHeld ?_
    try simp only [Act.put, List.setIfInBounds_toArray, List.set_cons_zero, List.set_cons_succ]
    refine wpAnyH_take (i := 2) (oi := ⟨some 43, _, _, _, _, _⟩) (v := ?_) rfl (by kernel_rfl) (by kernel_rfl) (by kernel_rfl) (fun _ _ _ h => h) (Or.inl ⟨by rfl, (by intro w hSw; (try dsimp only at hSw); go_simp; try with_reducible rfl)⟩) hHeld ?_
    try simp only [Act.put, List.setIfInBounds_toArray, List.set_cons_zero, List.set_cons_succ]
    refine wpAnyH_take (i := 3) (oi := ⟨some 44, _, _, _, _, _⟩) (v := ?_) rfl (by kernel_rfl) (by kernel_rfl) (by kernel_rfl) (fun _ _ _ h => h) (Or.inl ⟨by rfl, (by intro w hSw; (try dsimp only at hSw); go_simp; try with_reducible rfl)⟩) hHeld ?_
    try simp only [Act.put, List.setIfInBounds_toArray, List.set_cons_zero, List.set_cons_succ]
    refine wpAnyH_take (i := 4) (oi := ⟨some 45, _, _, _, _, _⟩) (v := ?_) rfl (by kernel_rfl) (by kernel_rfl) (by kernel_rfl) (fun _ _ _ h => h) (Or.inl ⟨by rfl, (by intro w hSw; (try dsimp only at hSw); go_simp; try with_reducible rfl)⟩) hHeld ?_
    try simp only [Act.put, List.setIfInBounds_toArray, List.set_cons_zero, List.set_cons_succ]
    refine wpAnyH_take (i := 5) (oi := ⟨some 46, _, _, _, _, _⟩) (v := ?_) rfl (by kernel_rfl) (by kernel_rfl) (by kernel_rfl) (fun _ _ _ h => h) (Or.inl ⟨by rfl, (by intro w hSw; (try dsimp only at hSw); go_simp; try with_reducible rfl)⟩) hHeld ?_
    try simp only [Act.put, List.setIfInBounds_toArray, List.set_cons_zero, List.set_cons_succ]
    refine wpAnyH_take (i := 6) (oi := ⟨some 47, _, _, _, _, _⟩) (v := ?_) rfl (by kernel_rfl) (by kernel_rfl) (by kernel_rfl) (fun _ _ _ h => h) (Or.inl ⟨by rfl, (by intro w hSw; (try dsimp only at hSw); go_simp; try with_reducible rfl)⟩) hHeld ?_
    try simp only [Act.put, List.setIfInBounds_toArray, List.set_cons_zero, List.set_cons_succ]
    refine wpAnyH_take (i := 7) (oi := ⟨some 48, _, _, _, _, _⟩) (v := ?_) rfl (by kernel_rfl) (by kernel_rfl) (by kernel_rfl) (fun _ _ _ h => h) (Or.inl ⟨by rfl, (by intro w hSw; (try dsimp only at hSw); go_simp; try with_reducible rfl)⟩) hHeld ?_
    try simp only [Act.put, List.setIfInBounds_toArray, List.set_cons_zero, List.set_cons_succ]
    refine wpAnyH_ready (rs := [8]) (by kernel_rfl) (by simp) ?_
    refine AllReadyH.cons (o := ⟨some 49, _, _, _, _, _⟩) rfl (fun K hK => ?_) AllReadyH.nil
    go_simp
    refine (hNm HT1.out).mono ?_
    rintro e w2 ⟨rfl, hb⟩
    have hS2 := And.intro ((hb.cell (p := ⟨r, 1, none⟩) HI1.out.lt).trans hHeld.1) ((hb.cell (p := ⟨r, 4, none⟩) HI1.out.lt).trans hHeld.2)
    refine hK.out _ _ hS2 (fun hHeld => ?_)
    clear hK K
    try simp only [Act.put, List.setIfInBounds_toArray, List.set_cons_zero, List.set_cons_succ]
    refine wpAnyH_take (i := 9) (oi := ⟨some 40, _, _, _, _, _⟩) (v := ?_) rfl (by kernel_rfl) (by kernel_rfl) (by kernel_rfl) (fun _ _ _ h => h) (Or.inl ⟨by rfl, (by intro w hSw; (try dsimp only at hSw); go_simp; try with_reducible rfl)⟩) hHeld ?_
    try simp only [Act.put, List.setIfInBounds_toArray, List.set_cons_zero, List.set_cons_succ]
    refine wpAnyH_take (i := 10) (oi := ⟨some 50, _, _, _, _, _⟩) (v := ?_) rfl (by kernel_rfl) (by kernel_rfl) (by kernel_rfl) (fun _ _ _ h => h) (Or.inl ⟨by rfl, (by intro w hSw; (try dsimp only at hSw); go_simp; try with_reducible rfl)⟩) hHeld ?_
    try simp only [Act.put, List.setIfInBounds_toArray, List.set_cons_zero, List.set_cons_succ]
    refine wpAnyH_take (i := 11) (oi := ⟨some 51, _, _, _, _, _⟩) (v := ?_) rfl (by kernel_rfl) (by kernel_rfl) (by kernel_rfl) (fun _ _ _ h => h) (Or.inl ⟨by rfl, (by intro w hSw; (try dsimp only at hSw); go_simp; try with_reducible rfl)⟩) hHeld ?_
    try simp only [Act.put, List.setIfInBounds_toArray, List.set_cons_zero, List.set_cons_succ]
    refine wpAnyH_take (i := 12) (oi := ⟨some 3, _, _, _, _, _⟩) (v := ?_) rfl (by kernel_rfl) (by kernel_rfl) (by kernel_rfl) (fun _ _ _ h => h) (Or.inl ⟨by rfl, (by intro w hSw; (try dsimp only at hSw); go_simp; try with_reducible rfl)⟩) hHeld ?_
    try simp only [Act.put, List.setIfInBounds_toArray, List.set_cons_zero, List.set_cons_succ]
    refine wpAnyH_take (i := 13) (oi := ⟨some 4, _, _, _, _, _⟩) (v := ?_) rfl (by kernel_rfl) (by kernel_rfl) (by kernel_rfl) (fun _ _ _ h => h) (Or.inl ⟨by rfl, (by intro w hSw; (try dsimp only at hSw); go_simp; try with_reducible rfl)⟩) hHeld ?_
    try simp only [Act.put, List.setIfInBounds_toArray, List.set_cons_zero, List.set_cons_succ]
    refine wpAnyH_done (by kernel_rfl) ?_ _
    have HI2 := Lib.hid (HI1.out.below hb)
    have HD2 := Lib.hid (HD1.out.below hb)
    have HB2 := Lib.hid (HB1.out.trans (hb.mono HB1.out.size))
    have e0 : w2.cell? ⟨r, 0, none⟩ = some (.pointer (some ⟨d, 0, none⟩)) := by
      obtain ⟨pv2, h2⟩ := HI2.out
      exact h2.own.1.cell 0
    clear hb hS2 hHeld HI1 HD1 HT1 HB1
    go_wp2_with (fail)
    refine (hCr HD2.out).mono ?_
    rintro e w3 ⟨rfl, χ1, s1, hd3⟩
    have HS3 := Lib.hid (((Stp.of_below (C := fun k => k = c ∨ k = cd) (χ := χ) HB2.out)).trans (s1.mono fun k hk => Or.inr hk))
    have HD3 := Lib.hid hd3
    have hI3 := HI2.out.stp s1 hc
    obtain ⟨pv3, h3⟩ := hI3
    have H3 := Lib.hid h3
    clear s1 hd3 h3 HI2 HD2 HB2 e0 hCr hNm hR
    go_wp2_with (fail)
    have c0 := H3.out.own.1.cell 0
    have c3 := H3.out.own.1.cell 3
    have c4 := H3.out.own.1.cell 4
    obtain ⟨i0, hi, hz0, hz1, hz2⟩ := info_parts int_info
    have hown : w3.drew.ownsRow 0 3 1 pv3 R.many (natV R.places) := H3.out.row
    have hown1 := hown.alloc (.cells #[.int .i64 (R.fin : Int)] 3)
    have hblk : Blk w3.drew r #[.pointer (some ⟨d, 0, none⟩), .string (S R.head), .int .i64 R.size, pv3, .int .i64 R.fin, .int .i64 R.synced] 129 := H3.out.own.1
    have hmx : R.many + 1 ≤ maxLen := by unfold maxLen; omega
    have hby : (R.many + 1) * 8 ≤ 140737488355328 := by omega
    refine wp_region_held_drew (S := fun w' => w'.cell? ⟨r, 4, none⟩ = some (.int .i64 R.fin)) (by kernel_rfl) c4 (fun hHeld => ?_)
    have HG := Lib.hid (World.grownBy_alloc w3.drew (.cells #[.int .i64 (R.fin : Int)] 3) pv3.ownBlock)
    have HS4 := Lib.hid HS3.out.drew
    refine wpAnyH_take (i := 0) (oi := ⟨some 63, _, _, _, _, _⟩) (v := ?_) rfl (by kernel_rfl) (by kernel_rfl) (by kernel_rfl) (fun _ _ _ h => h) (Or.inl ⟨by rfl, (by intro w hSw; (try dsimp only at hSw); go_simp; try with_reducible rfl)⟩) hHeld ?_
    try simp only [Act.put, List.setIfInBounds_toArray, List.set_cons_zero, List.set_cons_succ]
    refine wpAnyH_take (i := 1) (oi := ⟨some 64, _, _, _, _, _⟩) (v := ?_) rfl (by kernel_rfl) (by kernel_rfl) (by kernel_rfl) (fun _ _ _ h => h) (Or.inl ⟨by rfl, (by intro w hSw; (try dsimp only at hSw); go_simp; try with_reducible rfl)⟩) hHeld ?_
    try simp only [Act.put, List.setIfInBounds_toArray, List.set_cons_zero, List.set_cons_succ]
    refine wpAnyH_take (i := 2) (oi := ⟨some 65, _, _, _, _, _⟩) (v := ?_) rfl (by kernel_rfl) (by kernel_rfl) (by kernel_rfl) (fun _ _ _ h => h) (Or.inl ⟨by rfl, (by intro w hSw; (try dsimp only at hSw); go_simp; try with_reducible rfl)⟩) hHeld ?_
    try simp only [Act.put, List.setIfInBounds_toArray, List.set_cons_zero, List.set_cons_succ]
    refine wpAnyH_take (i := 3) (oi := ⟨some 66, _, _, _, _, _⟩) (v := ?_) rfl (by kernel_rfl) (by kernel_rfl) (by kernel_rfl) (fun _ _ _ h => h) (Or.inl ⟨by rfl, (by intro w hSw; (try dsimp only at hSw); go_simp; try with_reducible rfl)⟩) hHeld ?_
    try simp only [Act.put, List.setIfInBounds_toArray, List.set_cons_zero, List.set_cons_succ]
    refine wpAnyH_take (i := 5) (oi := ⟨some 68, _, _, _, _, _⟩) (v := ?_) rfl (by kernel_rfl) (by kernel_rfl) (by kernel_rfl) (fun _ _ _ h => h) (Or.inl ⟨by rfl, (by intro w hSw; (try dsimp only at hSw); go_simp; try with_reducible rfl)⟩) hHeld ?_
    try simp only [Act.put, List.setIfInBounds_toArray, List.set_cons_zero, List.set_cons_succ]
    refine wpAnyH_take (i := 6) (oi := ⟨some 69, _, _, _, _, _⟩) (v := ?_) rfl (by kernel_rfl) (by kernel_rfl) (by kernel_rfl) (fun _ _ _ h => h) (Or.inl ⟨by rfl, (by intro w hSw; (try dsimp only at hSw); go_simp; try with_reducible rfl)⟩) hHeld ?_
    try simp only [Act.put, List.setIfInBounds_toArray, List.set_cons_zero, List.set_cons_succ]
    refine wpAnyH_take (i := 7) (oi := ⟨some 70, _, _, _, _, _⟩) (v := ?_) rfl (by kernel_rfl) (by kernel_rfl) (by kernel_rfl) (fun _ _ _ h => h) (Or.inl ⟨by rfl, (by intro w hSw; (try dsimp only at hSw); go_simp; try with_reducible rfl)⟩) hHeld ?_
    try simp only [Act.put, List.setIfInBounds_toArray, List.set_cons_zero, List.set_cons_succ]
    refine wpAnyH_take (i := 8) (oi := ⟨some 71, _, _, _, _, _⟩) (v := ?_) rfl (by kernel_rfl) (by kernel_rfl) (by kernel_rfl) (fun _ _ _ h => h) (Or.inl ⟨by rfl, (by intro w hSw; (try dsimp only at hSw); go_simp; try with_reducible rfl)⟩) hHeld ?_
    try simp only [Act.put, List.setIfInBounds_toArray, List.set_cons_zero, List.set_cons_succ]
    refine wpAnyH_ready (rs := [4, 9]) (by kernel_rfl) (by simp) ?_
    refine (AllReadyH.cons (o := ⟨some 67, _, _, _, _, _⟩) rfl (fun K hK => ?_) (AllReadyH.cons (o := ⟨some 72, _, _, _, _, _⟩) rfl (fun K hK => ?_) AllReadyH.nil))
    · have c3n := (H3.out.own.1.alloc (.cells #[.int .i64 (R.fin : Int)] 3)).cell 3
      go_simp
      have hS2 := hHeld
      refine hK.out _ _ hS2 (fun hHeld => ?_)
      clear hK K
      try simp only [Act.put, List.setIfInBounds_toArray, List.set_cons_zero, List.set_cons_succ]
      refine wpAnyH_ready (rs := [9]) (by kernel_rfl) (by simp) ?_
      refine (AllReadyH.cons (o := ⟨some 72, _, _, _, _, _⟩) rfl (fun K hK => ?_) AllReadyH.nil)
      go_simp
      have hS2 := (hblk.alloc (.cells #[.int .i64 (R.fin : Int)] 3)).cell 4
      refine hK.out _ _ hS2 (fun hHeld => ?_)
      clear hK K
      try simp only [Act.put, List.setIfInBounds_toArray, List.set_cons_zero, List.set_cons_succ]
      refine wpAnyH_ready (rs := [10]) (by kernel_rfl) (by simp) ?_
      refine (AllReadyH.cons (o := ⟨some 73, _, _, _, _, _⟩) rfl (fun K hK => ?_) AllReadyH.nil)
      refine held_append_own rfl _ _ 35 rfl 0 3 i0 _ 1 8 Tryz.underlying35 hi hz0 hz1 hz2 rfl (by decide) pv3 R.many _ rfl hown1 ⟨w3.drew.heap.size, 0, none⟩ 1 1 _ rfl rfl (cell_one_new w3.drew _ _) (by simp [Value.oneCell']) hmx hby (Nat.zero_le _) ?_
      intro v5 w5 hown5 hgrow5 hnil5 hat5
      obtain ⟨g5, cap5, rfl⟩ := row_shape hown5
      have hd5 := (hblk.alloc (.cells #[.int .i64 (R.fin : Int)] 3)).grown hgrow5 H3.out.ne
      have hS2 := hd5.cell 4
      refine hK.out _ _ hS2 (fun hHeld => ?_)
      clear hK K
      try simp only [Act.put, List.setIfInBounds_toArray, List.set_cons_zero, List.set_cons_succ]
      refine wpAnyH_take (i := 11) (oi := ⟨some 74, _, _, _, _, _⟩) (v := ?_) rfl (by kernel_rfl) (by kernel_rfl) (by kernel_rfl) (fun _ _ _ h => h) (Or.inl ⟨by rfl, (by intro w hSw; (try dsimp only at hSw); go_simp; try with_reducible rfl)⟩) hHeld ?_
      try simp only [Act.put, List.setIfInBounds_toArray, List.set_cons_zero, List.set_cons_succ]
      refine wpAnyH_take (i := 12) (oi := ⟨some 75, _, _, _, _, _⟩) (v := ?_) rfl (by kernel_rfl) (by kernel_rfl) (by kernel_rfl) (fun _ _ _ h => h) (Or.inl ⟨by rfl, (by intro w hSw; (try dsimp only at hSw); go_simp; try with_reducible rfl)⟩) hHeld ?_
      try simp only [Act.put, List.setIfInBounds_toArray, List.set_cons_zero, List.set_cons_succ]
      refine wpAnyH_ready (rs := [13]) (by kernel_rfl) (by simp) ?_
      refine (AllReadyH.cons (o := ⟨none, _, _, _, _, _⟩) rfl (fun K hK => ?_) AllReadyH.nil)
      have c5 := hd5.cell 3
      have f5 := hd5.frozen 3
      go_simp
      have hS2 := (hd5.set 3 (.slice (some ⟨g5, 0, none⟩) (R.many + 1) cap5)).cell 4
      refine hK.out _ _ hS2 (fun hHeld => ?_)
      clear hK K
      try simp only [Act.put, List.setIfInBounds_toArray, List.set_cons_zero, List.set_cons_succ]
      refine wpAnyH_done (by kernel_rfl) ?_ _
      go_wp2
      go_ret
      obtain ⟨χ2, s2, h6⟩ := H3.out.drew.push HX.out.1 HX.out.2 (World.grownBy.trans HG.out hgrow5) hown5 (hat5.imp id fun h => ⟨_, by simp, h⟩)
      exact ⟨rfl, χ2, HS4.out.trans (s2.mono fun k hk => Or.inl hk), ⟨_, h6⟩, HD3.out.drew.stp s2 (fun e => hc e.symm)⟩
    · go_simp
      have hS2 := (hblk.alloc (.cells #[.int .i64 (R.fin : Int)] 3)).cell 4
      refine hK.out _ _ hS2 (fun hHeld => ?_)
      clear hK K
      try simp only [Act.put, List.setIfInBounds_toArray, List.set_cons_zero, List.set_cons_succ]
      refine wpAnyH_ready (rs := [4]) (by kernel_rfl) (by simp) ?_
      refine (AllReadyH.cons (o := ⟨some 67, _, _, _, _, _⟩) rfl (fun K hK => ?_) AllReadyH.nil)
      have c3n := (H3.out.own.1.alloc (.cells #[.int .i64 (R.fin : Int)] 3)).cell 3
      go_simp
      have hS2 := hHeld
      refine hK.out _ _ hS2 (fun hHeld => ?_)
      clear hK K
      try simp only [Act.put, List.setIfInBounds_toArray, List.set_cons_zero, List.set_cons_succ]
      refine wpAnyH_ready (rs := [10]) (by kernel_rfl) (by simp) ?_
      refine (AllReadyH.cons (o := ⟨some 73, _, _, _, _, _⟩) rfl (fun K hK => ?_) AllReadyH.nil)
      refine held_append_own rfl _ _ 35 rfl 0 3 i0 _ 1 8 Tryz.underlying35 hi hz0 hz1 hz2 rfl (by decide) pv3 R.many _ rfl hown1 ⟨w3.drew.heap.size, 0, none⟩ 1 1 _ rfl rfl (cell_one_new w3.drew _ _) (by simp [Value.oneCell']) hmx hby (Nat.zero_le _) ?_
      intro v5 w5 hown5 hgrow5 hnil5 hat5
      obtain ⟨g5, cap5, rfl⟩ := row_shape hown5
      have hd5 := (hblk.alloc (.cells #[.int .i64 (R.fin : Int)] 3)).grown hgrow5 H3.out.ne
      have hS2 := hd5.cell 4
      refine hK.out _ _ hS2 (fun hHeld => ?_)
      clear hK K
      try simp only [Act.put, List.setIfInBounds_toArray, List.set_cons_zero, List.set_cons_succ]
      refine wpAnyH_take (i := 11) (oi := ⟨some 74, _, _, _, _, _⟩) (v := ?_) rfl (by kernel_rfl) (by kernel_rfl) (by kernel_rfl) (fun _ _ _ h => h) (Or.inl ⟨by rfl, (by intro w hSw; (try dsimp only at hSw); go_simp; try with_reducible rfl)⟩) hHeld ?_
      try simp only [Act.put, List.setIfInBounds_toArray, List.set_cons_zero, List.set_cons_succ]
      refine wpAnyH_take (i := 12) (oi := ⟨some 75, _, _, _, _, _⟩) (v := ?_) rfl (by kernel_rfl) (by kernel_rfl) (by kernel_rfl) (fun _ _ _ h => h) (Or.inl ⟨by rfl, (by intro w hSw; (try dsimp only at hSw); go_simp; try with_reducible rfl)⟩) hHeld ?_
      try simp only [Act.put, List.setIfInBounds_toArray, List.set_cons_zero, List.set_cons_succ]
      refine wpAnyH_ready (rs := [13]) (by kernel_rfl) (by simp) ?_
      refine (AllReadyH.cons (o := ⟨none, _, _, _, _, _⟩) rfl (fun K hK => ?_) AllReadyH.nil)
      have c5 := hd5.cell 3
      have f5 := hd5.frozen 3
      go_simp
      have hS2 := (hd5.set 3 (.slice (some ⟨g5, 0, none⟩) (R.many + 1) cap5)).cell 4
      refine hK.out _ _ hS2 (fun hHeld => ?_)
      clear hK K
      try simp only [Act.put, List.setIfInBounds_toArray, List.set_cons_zero, List.set_cons_succ]
      refine wpAnyH_done (by kernel_rfl) ?_ _
      go_wp2
      go_ret
      obtain ⟨χ2, s2, h6⟩ := H3.out.drew.push HX.out.1 HX.out.2 (World.grownBy.trans HG.out hgrow5) hown5 (hat5.imp id fun h => ⟨_, by simp, h⟩)
      exact ⟨rfl, χ2, HS4.out.trans (s2.mono fun k hk => Or.inl hk), ⟨_, h6⟩, HD3.out.drew.stp s2 (fun e => hc e.symm)⟩
  · obtain ⟨g, cap', hpv, cp⟩ := hpl hm
    injection hpv with hA _ hcap
    subst hA
    have hmi : (0 : Int) < R.many := by omega
    have hmp : R.many - 1 < R.many := by omega
    have hne := hneq hm
    go_quiet (exact Calls.quiet_of (hR _))
    go_wp2_with (fail)
    have HI1 := Lib.hid (HI.out.drewN (nq + 1))
    have HT1 := Lib.hid (HT.out.drewN (nq + 1))
    have HD1 := Lib.hid (HD.out.below (below_drewN w (nq + 1)))
    have HB1 := Lib.hid (below_drewN w (nq + 1))
    have e1 : (w.drewN (nq + 1)).cell? ⟨r, 1, none⟩ = some (.string (S R.head)) ∧ (w.drewN (nq + 1)).cell? ⟨r, 4, none⟩ = some (.int .i64 R.fin) := ⟨c1, c4⟩
    refine wp_region_held_drew (S := fun w' => w'.cell? ⟨r, 1, none⟩ = some (.string (S R.head)) ∧ w'.cell? ⟨r, 4, none⟩ = some (.int .i64 R.fin)) (by kernel_rfl) e1 (fun hHeld => ?_)
    rw [show (w.drewN nq).drew = w.drewN (nq + 1) from rfl] at *
    generalize w.drewN (nq + 1) = w1 at *
    clear c1 c2 c3 c4 e1 HI HT HD
    refine wpAnyH_take (i := 0) (oi := ⟨some 41, _, _, _, _, _⟩) (v := ?_) rfl (by kernel_rfl) (by kernel_rfl) (by kernel_rfl) (fun _ _ _ h => h) (Or.inl ⟨by rfl, (by intro w hSw; (try dsimp only at hSw); go_simp; try with_reducible rfl)⟩) hHeld ?_
    try simp only [Act.put, List.setIfInBounds_toArray, List.set_cons_zero, List.set_cons_succ]
    refine wpAnyH_take (i := 1) (oi := ⟨some 42, _, _, _, _, _⟩) (v := ?_) rfl (by kernel_rfl) (by kernel_rfl) (by kernel_rfl) (fun _ _ _ h => h) (Or.inl ⟨by rfl, (by intro w hSw; (try dsimp only at hSw); go_simp; try with_reducible rfl)⟩) hHeld ?_
    try simp only [Act.put, List.setIfInBounds_toArray, List.set_cons_zero, List.set_cons_succ]
    refine wpAnyH_take (i := 2) (oi := ⟨some 43, _, _, _, _, _⟩) (v := ?_) rfl (by kernel_rfl) (by kernel_rfl) (by kernel_rfl) (fun _ _ _ h => h) (Or.inl ⟨by rfl, (by intro w hSw; (try dsimp only at hSw); go_simp; try with_reducible rfl)⟩) hHeld ?_
    try simp only [Act.put, List.setIfInBounds_toArray, List.set_cons_zero, List.set_cons_succ]
    refine wpAnyH_take (i := 3) (oi := ⟨some 44, _, _, _, _, _⟩) (v := ?_) rfl (by kernel_rfl) (by kernel_rfl) (by kernel_rfl) (fun _ _ _ h => h) (Or.inl ⟨by rfl, (by intro w hSw; (try dsimp only at hSw); go_simp; try with_reducible rfl)⟩) hHeld ?_
    try simp only [Act.put, List.setIfInBounds_toArray, List.set_cons_zero, List.set_cons_succ]
    refine wpAnyH_take (i := 4) (oi := ⟨some 45, _, _, _, _, _⟩) (v := ?_) rfl (by kernel_rfl) (by kernel_rfl) (by kernel_rfl) (fun _ _ _ h => h) (Or.inl ⟨by rfl, (by intro w hSw; (try dsimp only at hSw); go_simp; try with_reducible rfl)⟩) hHeld ?_
    try simp only [Act.put, List.setIfInBounds_toArray, List.set_cons_zero, List.set_cons_succ]
    refine wpAnyH_take (i := 5) (oi := ⟨some 46, _, _, _, _, _⟩) (v := ?_) rfl (by kernel_rfl) (by kernel_rfl) (by kernel_rfl) (fun _ _ _ h => h) (Or.inl ⟨by rfl, (by intro w hSw; (try dsimp only at hSw); go_simp; try with_reducible rfl)⟩) hHeld ?_
    try simp only [Act.put, List.setIfInBounds_toArray, List.set_cons_zero, List.set_cons_succ]
    refine wpAnyH_take (i := 6) (oi := ⟨some 47, _, _, _, _, _⟩) (v := ?_) rfl (by kernel_rfl) (by kernel_rfl) (by kernel_rfl) (fun _ _ _ h => h) (Or.inl ⟨by rfl, (by intro w hSw; (try dsimp only at hSw); go_simp; try with_reducible rfl)⟩) hHeld ?_
    try simp only [Act.put, List.setIfInBounds_toArray, List.set_cons_zero, List.set_cons_succ]
    refine wpAnyH_take (i := 7) (oi := ⟨some 48, _, _, _, _, _⟩) (v := ?_) rfl (by kernel_rfl) (by kernel_rfl) (by kernel_rfl) (fun _ _ _ h => h) (Or.inl ⟨by rfl, (by intro w hSw; (try dsimp only at hSw); go_simp; try with_reducible rfl)⟩) hHeld ?_
    try simp only [Act.put, List.setIfInBounds_toArray, List.set_cons_zero, List.set_cons_succ]
    refine wpAnyH_ready (rs := [8]) (by kernel_rfl) (by simp) ?_
    refine AllReadyH.cons (o := ⟨some 49, _, _, _, _, _⟩) rfl (fun K hK => ?_) AllReadyH.nil
    go_simp
    refine (hNm HT1.out).mono ?_
    rintro e w2 ⟨rfl, hb⟩
    have hS2 := And.intro ((hb.cell (p := ⟨r, 1, none⟩) HI1.out.lt).trans hHeld.1) ((hb.cell (p := ⟨r, 4, none⟩) HI1.out.lt).trans hHeld.2)
    refine hK.out _ _ hS2 (fun hHeld => ?_)
    clear hK K
    try simp only [Act.put, List.setIfInBounds_toArray, List.set_cons_zero, List.set_cons_succ]
    refine wpAnyH_take (i := 9) (oi := ⟨some 40, _, _, _, _, _⟩) (v := ?_) rfl (by kernel_rfl) (by kernel_rfl) (by kernel_rfl) (fun _ _ _ h => h) (Or.inl ⟨by rfl, (by intro w hSw; (try dsimp only at hSw); go_simp; try with_reducible rfl)⟩) hHeld ?_
    try simp only [Act.put, List.setIfInBounds_toArray, List.set_cons_zero, List.set_cons_succ]
    refine wpAnyH_take (i := 10) (oi := ⟨some 50, _, _, _, _, _⟩) (v := ?_) rfl (by kernel_rfl) (by kernel_rfl) (by kernel_rfl) (fun _ _ _ h => h) (Or.inl ⟨by rfl, (by intro w hSw; (try dsimp only at hSw); go_simp; try with_reducible rfl)⟩) hHeld ?_
    try simp only [Act.put, List.setIfInBounds_toArray, List.set_cons_zero, List.set_cons_succ]
    refine wpAnyH_take (i := 11) (oi := ⟨some 51, _, _, _, _, _⟩) (v := ?_) rfl (by kernel_rfl) (by kernel_rfl) (by kernel_rfl) (fun _ _ _ h => h) (Or.inl ⟨by rfl, (by intro w hSw; (try dsimp only at hSw); go_simp; try with_reducible rfl)⟩) hHeld ?_
    try simp only [Act.put, List.setIfInBounds_toArray, List.set_cons_zero, List.set_cons_succ]
    refine wpAnyH_take (i := 12) (oi := ⟨some 3, _, _, _, _, _⟩) (v := ?_) rfl (by kernel_rfl) (by kernel_rfl) (by kernel_rfl) (fun _ _ _ h => h) (Or.inl ⟨by rfl, (by intro w hSw; (try dsimp only at hSw); go_simp; try with_reducible rfl)⟩) hHeld ?_
    try simp only [Act.put, List.setIfInBounds_toArray, List.set_cons_zero, List.set_cons_succ]
    refine wpAnyH_take (i := 13) (oi := ⟨some 4, _, _, _, _, _⟩) (v := ?_) rfl (by kernel_rfl) (by kernel_rfl) (by kernel_rfl) (fun _ _ _ h => h) (Or.inl ⟨by rfl, (by intro w hSw; (try dsimp only at hSw); go_simp; try with_reducible rfl)⟩) hHeld ?_
    try simp only [Act.put, List.setIfInBounds_toArray, List.set_cons_zero, List.set_cons_succ]
    refine wpAnyH_done (by kernel_rfl) ?_ _
    have HI2 := Lib.hid (HI1.out.below hb)
    have HD2 := Lib.hid (HD1.out.below hb)
    have HB2 := Lib.hid (HB1.out.trans (hb.mono HB1.out.size))
    have e0 : w2.cell? ⟨r, 0, none⟩ = some (.pointer (some ⟨d, 0, none⟩)) := by
      obtain ⟨pv2, h2⟩ := HI2.out
      exact h2.own.1.cell 0
    clear hb hS2 hHeld HI1 HD1 HT1 HB1
    go_wp2_with (fail)
    refine (hCr HD2.out).mono ?_
    rintro e w3 ⟨rfl, χ1, s1, hd3⟩
    have HS3 := Lib.hid (((Stp.of_below (C := fun k => k = c ∨ k = cd) (χ := χ) HB2.out)).trans (s1.mono fun k hk => Or.inr hk))
    have HD3 := Lib.hid hd3
    have hI3 := HI2.out.stp s1 hc
    obtain ⟨pv3, h3⟩ := hI3
    have H3 := Lib.hid h3
    clear s1 hd3 h3 HI2 HD2 HB2 e0 hCr hNm hR
    go_wp2_with (fail)
    have c0 := H3.out.own.1.cell 0
    have c3 := H3.out.own.1.cell 3
    have c4 := H3.out.own.1.cell 4
    obtain ⟨i0, hi, hz0, hz1, hz2⟩ := info_parts int_info
    have hown : w3.drew.ownsRow 0 3 1 pv3 R.many (natV R.places) := H3.out.row
    have hown1 := hown.alloc (.cells #[.int .i64 (R.fin : Int)] 3)
    have hblk : Blk w3.drew r #[.pointer (some ⟨d, 0, none⟩), .string (S R.head), .int .i64 R.size, pv3, .int .i64 R.fin, .int .i64 R.synced] 129 := H3.out.own.1
    have hmx : R.many + 1 ≤ maxLen := by unfold maxLen; omega
    have hby : (R.many + 1) * 8 ≤ 140737488355328 := by omega
    refine wp_region_held_drew (S := fun w' => w'.cell? ⟨r, 4, none⟩ = some (.int .i64 R.fin)) (by kernel_rfl) c4 (fun hHeld => ?_)
    have HG := Lib.hid (World.grownBy_alloc w3.drew (.cells #[.int .i64 (R.fin : Int)] 3) pv3.ownBlock)
    have HS4 := Lib.hid HS3.out.drew
    refine wpAnyH_take (i := 0) (oi := ⟨some 63, _, _, _, _, _⟩) (v := ?_) rfl (by kernel_rfl) (by kernel_rfl) (by kernel_rfl) (fun _ _ _ h => h) (Or.inl ⟨by rfl, (by intro w hSw; (try dsimp only at hSw); go_simp; try with_reducible rfl)⟩) hHeld ?_
    try simp only [Act.put, List.setIfInBounds_toArray, List.set_cons_zero, List.set_cons_succ]
    refine wpAnyH_take (i := 1) (oi := ⟨some 64, _, _, _, _, _⟩) (v := ?_) rfl (by kernel_rfl) (by kernel_rfl) (by kernel_rfl) (fun _ _ _ h => h) (Or.inl ⟨by rfl, (by intro w hSw; (try dsimp only at hSw); go_simp; try with_reducible rfl)⟩) hHeld ?_
    try simp only [Act.put, List.setIfInBounds_toArray, List.set_cons_zero, List.set_cons_succ]
    refine wpAnyH_take (i := 2) (oi := ⟨some 65, _, _, _, _, _⟩) (v := ?_) rfl (by kernel_rfl) (by kernel_rfl) (by kernel_rfl) (fun _ _ _ h => h) (Or.inl ⟨by rfl, (by intro w hSw; (try dsimp only at hSw); go_simp; try with_reducible rfl)⟩) hHeld ?_
    try simp only [Act.put, List.setIfInBounds_toArray, List.set_cons_zero, List.set_cons_succ]
    refine wpAnyH_take (i := 3) (oi := ⟨some 66, _, _, _, _, _⟩) (v := ?_) rfl (by kernel_rfl) (by kernel_rfl) (by kernel_rfl) (fun _ _ _ h => h) (Or.inl ⟨by rfl, (by intro w hSw; (try dsimp only at hSw); go_simp; try with_reducible rfl)⟩) hHeld ?_
    try simp only [Act.put, List.setIfInBounds_toArray, List.set_cons_zero, List.set_cons_succ]
    refine wpAnyH_take (i := 5) (oi := ⟨some 68, _, _, _, _, _⟩) (v := ?_) rfl (by kernel_rfl) (by kernel_rfl) (by kernel_rfl) (fun _ _ _ h => h) (Or.inl ⟨by rfl, (by intro w hSw; (try dsimp only at hSw); go_simp; try with_reducible rfl)⟩) hHeld ?_
    try simp only [Act.put, List.setIfInBounds_toArray, List.set_cons_zero, List.set_cons_succ]
    refine wpAnyH_take (i := 6) (oi := ⟨some 69, _, _, _, _, _⟩) (v := ?_) rfl (by kernel_rfl) (by kernel_rfl) (by kernel_rfl) (fun _ _ _ h => h) (Or.inl ⟨by rfl, (by intro w hSw; (try dsimp only at hSw); go_simp; try with_reducible rfl)⟩) hHeld ?_
    try simp only [Act.put, List.setIfInBounds_toArray, List.set_cons_zero, List.set_cons_succ]
    refine wpAnyH_take (i := 7) (oi := ⟨some 70, _, _, _, _, _⟩) (v := ?_) rfl (by kernel_rfl) (by kernel_rfl) (by kernel_rfl) (fun _ _ _ h => h) (Or.inl ⟨by rfl, (by intro w hSw; (try dsimp only at hSw); go_simp; try with_reducible rfl)⟩) hHeld ?_
    try simp only [Act.put, List.setIfInBounds_toArray, List.set_cons_zero, List.set_cons_succ]
    refine wpAnyH_take (i := 8) (oi := ⟨some 71, _, _, _, _, _⟩) (v := ?_) rfl (by kernel_rfl) (by kernel_rfl) (by kernel_rfl) (fun _ _ _ h => h) (Or.inl ⟨by rfl, (by intro w hSw; (try dsimp only at hSw); go_simp; try with_reducible rfl)⟩) hHeld ?_
    try simp only [Act.put, List.setIfInBounds_toArray, List.set_cons_zero, List.set_cons_succ]
    refine wpAnyH_ready (rs := [4, 9]) (by kernel_rfl) (by simp) ?_
    refine (AllReadyH.cons (o := ⟨some 67, _, _, _, _, _⟩) rfl (fun K hK => ?_) (AllReadyH.cons (o := ⟨some 72, _, _, _, _, _⟩) rfl (fun K hK => ?_) AllReadyH.nil))
    · have c3n := (H3.out.own.1.alloc (.cells #[.int .i64 (R.fin : Int)] 3)).cell 3
      go_simp
      have hS2 := hHeld
      refine hK.out _ _ hS2 (fun hHeld => ?_)
      clear hK K
      try simp only [Act.put, List.setIfInBounds_toArray, List.set_cons_zero, List.set_cons_succ]
      refine wpAnyH_ready (rs := [9]) (by kernel_rfl) (by simp) ?_
      refine (AllReadyH.cons (o := ⟨some 72, _, _, _, _, _⟩) rfl (fun K hK => ?_) AllReadyH.nil)
      go_simp
      have hS2 := (hblk.alloc (.cells #[.int .i64 (R.fin : Int)] 3)).cell 4
      refine hK.out _ _ hS2 (fun hHeld => ?_)
      clear hK K
      try simp only [Act.put, List.setIfInBounds_toArray, List.set_cons_zero, List.set_cons_succ]
      refine wpAnyH_ready (rs := [10]) (by kernel_rfl) (by simp) ?_
      refine (AllReadyH.cons (o := ⟨some 73, _, _, _, _, _⟩) rfl (fun K hK => ?_) AllReadyH.nil)
      refine held_append_own rfl _ _ 35 rfl 0 3 i0 _ 1 8 Tryz.underlying35 hi hz0 hz1 hz2 rfl (by decide) pv3 R.many _ rfl hown1 ⟨w3.drew.heap.size, 0, none⟩ 1 1 _ rfl rfl (cell_one_new w3.drew _ _) (by simp [Value.oneCell']) hmx hby (Nat.zero_le _) ?_
      intro v5 w5 hown5 hgrow5 hnil5 hat5
      obtain ⟨g5, cap5, rfl⟩ := row_shape hown5
      have hd5 := (hblk.alloc (.cells #[.int .i64 (R.fin : Int)] 3)).grown hgrow5 H3.out.ne
      have hS2 := hd5.cell 4
      refine hK.out _ _ hS2 (fun hHeld => ?_)
      clear hK K
      try simp only [Act.put, List.setIfInBounds_toArray, List.set_cons_zero, List.set_cons_succ]
      refine wpAnyH_take (i := 11) (oi := ⟨some 74, _, _, _, _, _⟩) (v := ?_) rfl (by kernel_rfl) (by kernel_rfl) (by kernel_rfl) (fun _ _ _ h => h) (Or.inl ⟨by rfl, (by intro w hSw; (try dsimp only at hSw); go_simp; try with_reducible rfl)⟩) hHeld ?_
      try simp only [Act.put, List.setIfInBounds_toArray, List.set_cons_zero, List.set_cons_succ]
      refine wpAnyH_take (i := 12) (oi := ⟨some 75, _, _, _, _, _⟩) (v := ?_) rfl (by kernel_rfl) (by kernel_rfl) (by kernel_rfl) (fun _ _ _ h => h) (Or.inl ⟨by rfl, (by intro w hSw; (try dsimp only at hSw); go_simp; try with_reducible rfl)⟩) hHeld ?_
      try simp only [Act.put, List.setIfInBounds_toArray, List.set_cons_zero, List.set_cons_succ]
      refine wpAnyH_ready (rs := [13]) (by kernel_rfl) (by simp) ?_
      refine (AllReadyH.cons (o := ⟨none, _, _, _, _, _⟩) rfl (fun K hK => ?_) AllReadyH.nil)
      have c5 := hd5.cell 3
      have f5 := hd5.frozen 3
      go_simp
      have hS2 := (hd5.set 3 (.slice (some ⟨g5, 0, none⟩) (R.many + 1) cap5)).cell 4
      refine hK.out _ _ hS2 (fun hHeld => ?_)
      clear hK K
      try simp only [Act.put, List.setIfInBounds_toArray, List.set_cons_zero, List.set_cons_succ]
      refine wpAnyH_done (by kernel_rfl) ?_ _
      go_wp2
      go_ret
      obtain ⟨χ2, s2, h6⟩ := H3.out.drew.push HX.out.1 HX.out.2 (World.grownBy.trans HG.out hgrow5) hown5 (hat5.imp id fun h => ⟨_, by simp, h⟩)
      exact ⟨rfl, χ2, HS4.out.trans (s2.mono fun k hk => Or.inl hk), ⟨_, h6⟩, HD3.out.drew.stp s2 (fun e => hc e.symm)⟩
    · go_simp
      have hS2 := (hblk.alloc (.cells #[.int .i64 (R.fin : Int)] 3)).cell 4
      refine hK.out _ _ hS2 (fun hHeld => ?_)
      clear hK K
      try simp only [Act.put, List.setIfInBounds_toArray, List.set_cons_zero, List.set_cons_succ]
      refine wpAnyH_ready (rs := [4]) (by kernel_rfl) (by simp) ?_
      refine (AllReadyH.cons (o := ⟨some 67, _, _, _, _, _⟩) rfl (fun K hK => ?_) AllReadyH.nil)
      have c3n := (H3.out.own.1.alloc (.cells #[.int .i64 (R.fin : Int)] 3)).cell 3
      go_simp
      have hS2 := hHeld
      refine hK.out _ _ hS2 (fun hHeld => ?_)
      clear hK K
      try simp only [Act.put, List.setIfInBounds_toArray, List.set_cons_zero, List.set_cons_succ]
      refine wpAnyH_ready (rs := [10]) (by kernel_rfl) (by simp) ?_
      refine (AllReadyH.cons (o := ⟨some 73, _, _, _, _, _⟩) rfl (fun K hK => ?_) AllReadyH.nil)
      refine held_append_own rfl _ _ 35 rfl 0 3 i0 _ 1 8 Tryz.underlying35 hi hz0 hz1 hz2 rfl (by decide) pv3 R.many _ rfl hown1 ⟨w3.drew.heap.size, 0, none⟩ 1 1 _ rfl rfl (cell_one_new w3.drew _ _) (by simp [Value.oneCell']) hmx hby (Nat.zero_le _) ?_
      intro v5 w5 hown5 hgrow5 hnil5 hat5
      obtain ⟨g5, cap5, rfl⟩ := row_shape hown5
      have hd5 := (hblk.alloc (.cells #[.int .i64 (R.fin : Int)] 3)).grown hgrow5 H3.out.ne
      have hS2 := hd5.cell 4
      refine hK.out _ _ hS2 (fun hHeld => ?_)
      clear hK K
      try simp only [Act.put, List.setIfInBounds_toArray, List.set_cons_zero, List.set_cons_succ]
      refine wpAnyH_take (i := 11) (oi := ⟨some 74, _, _, _, _, _⟩) (v := ?_) rfl (by kernel_rfl) (by kernel_rfl) (by kernel_rfl) (fun _ _ _ h => h) (Or.inl ⟨by rfl, (by intro w hSw; (try dsimp only at hSw); go_simp; try with_reducible rfl)⟩) hHeld ?_
      try simp only [Act.put, List.setIfInBounds_toArray, List.set_cons_zero, List.set_cons_succ]
      refine wpAnyH_take (i := 12) (oi := ⟨some 75, _, _, _, _, _⟩) (v := ?_) rfl (by kernel_rfl) (by kernel_rfl) (by kernel_rfl) (fun _ _ _ h => h) (Or.inl ⟨by rfl, (by intro w hSw; (try dsimp only at hSw); go_simp; try with_reducible rfl)⟩) hHeld ?_
      try simp only [Act.put, List.setIfInBounds_toArray, List.set_cons_zero, List.set_cons_succ]
      refine wpAnyH_ready (rs := [13]) (by kernel_rfl) (by simp) ?_
      refine (AllReadyH.cons (o := ⟨none, _, _, _, _, _⟩) rfl (fun K hK => ?_) AllReadyH.nil)
      have c5 := hd5.cell 3
      have f5 := hd5.frozen 3
      go_simp
      have hS2 := (hd5.set 3 (.slice (some ⟨g5, 0, none⟩) (R.many + 1) cap5)).cell 4
      refine hK.out _ _ hS2 (fun hHeld => ?_)
      clear hK K
      try simp only [Act.put, List.setIfInBounds_toArray, List.set_cons_zero, List.set_cons_succ]
      refine wpAnyH_done (by kernel_rfl) ?_ _
      go_wp2
      go_ret
      obtain ⟨χ2, s2, h6⟩ := H3.out.drew.push HX.out.1 HX.out.2 (World.grownBy.trans HG.out hgrow5) hown5 (hat5.imp id fun h => ⟨_, by simp, h⟩)
      exact ⟨rfl, χ2, HS4.out.trans (s2.mono fun k hk => Or.inl hk), ⟨_, h6⟩, HD3.out.drew.stp s2 (fun e => hc e.symm)⟩

end Go.Proofs.YtnacjogdndggeaaGreatDoor
end
