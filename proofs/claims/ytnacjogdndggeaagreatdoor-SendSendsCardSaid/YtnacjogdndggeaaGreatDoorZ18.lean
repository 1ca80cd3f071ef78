/- crc.Open of what was sealed. -/
import Derived.Test.YtnacjogdndggeaaGreatDoorZ17
import Derived.Test.YtnacjogdndggeaaGreatDoorZ13
import Derived.Deep.RegionHeld3
import Derived.Laws.Cover3
import Derived.Laws.StructEq
section
namespace Go.Proofs.YtnacjogdndggeaaGreatDoor
open Go.Shelf Go.RowKit Go.Lib
set_option maxRecDepth 100000
set_option maxHeartbeats 2000000

/-- What is known while the two chains run. -/
def Fx (w0 : World) (g : Nat) (bL : Option Nat) (l : List UInt8) (bC : Option Nat) (x : List UInt8) (wc : World) : Prop :=
  Below w0.heap.size w0 wc ∧ IsTab g wc ∧ (∀ b, bL = some b → wc.cell? ⟨b, 0, none⟩ = some (.string (S l))) ∧ (∀ b, bC = some b → ∀ j u, (bv x)[j]? = some u → wc.cell? ⟨b, j, none⟩ = some u)
theorem Fx.below {w0 : World} {g : Nat} {bL bC : Option Nat} {l x : List UInt8} {wc wn : World} (h : Fx w0 g bL l bC x wc) (hb : Below wc.heap.size wc wn) : Fx w0 g bL l bC x wn :=
  ⟨h.1.trans (hb.mono h.1.size), Blk.below h.2.1 hb, fun b e => (hb.cell (p := ⟨b, 0, none⟩) (cell_lt (h.2.2.1 b e))).trans (h.2.2.1 b e), fun b e j u hj => (hb.cell (p := ⟨b, j, none⟩) (cell_lt (h.2.2.2 b e j u hj))).trans (h.2.2.2 b e j u hj)⟩
theorem Fx.list {w0 : World} {g : Nat} {bC : Option Nat} {l x : List UInt8} {wc : World} (h : Fx w0 g none l bC x wc) : Fx w0 g (some wc.heap.size) l bC x (wc.alloc (.cells #[.string (S l)] 9)) := by
  have hb := (Below.refl wc.heap.size wc).alloc (Nat.le_refl _) (.cells #[.string (S l)] 9)
  have h2 := h.below hb
  exact ⟨h2.1, h2.2.1, fun b e => by injection e with e; subst e; exact (Blk.new wc _ _).cell 0, h2.2.2.2⟩
theorem Fx.conv {w0 : World} {g : Nat} {bL : Option Nat} {l x : List UInt8} {wc wn : World} {b : Nat} (h : Fx w0 g bL l none x wc) (hb : Below wc.heap.size wc wn) (hc : ∀ j u, (bv x)[j]? = some u → wn.cell? ⟨b, j, none⟩ = some u) : Fx w0 g bL l (some b) x wn := by
  have h2 := h.below hb
  exact ⟨h2.1, h2.2.1, h2.2.2.1, fun b' e => by injection e with e; subst e; exact hc⟩
theorem below_drewN0 (w : World) (n : Nat) : Below w.heap.size w (w.drewN n) := ⟨rfl, rfl, rfl, Nat.le_refl _, fun _ _ => rfl⟩

theorem bv_word (n : Int) (n0 : 0 ≤ n) (n1 : n < 4294967296) : bv (wordL n) = [.int .u8 (n / 16777216), .int .u8 (n / 65536 % 256), .int .u8 (n / 256 % 256), .int .u8 (n % 256)] := by
  simp only [bv, wordL, List.map_cons, List.map_nil]
  have key : ∀ k : Int, 0 ≤ k → k < 256 → (((UInt8.ofNat k.toNat).toNat : Nat) : Int) = k := fun k h0 h1 => by
    rw [UInt8.toNat_ofNat']
    omega
  rw [key _ (by omega) (by omega), key _ (by omega) (by omega), key _ (by omega) (by omega), key _ (by omega) (by omega)]
theorem arr4_same (a b c d : Int) (w : World) : (Op.equalIn 10000 198 (.agg #[.int .u8 a, .int .u8 b, .int .u8 c, .int .u8 d]) (.agg #[.int .u8 a, .int .u8 b, .int .u8 c, .int .u8 d])).run Tryz.prog w = .ok true w := by
  have e : ∀ (dd : Nat) (x : Int) (w : World), (Op.equalIn (dd + 1) 5 (.int .u8 x) (.int .u8 x)).run Tryz.prog w = .ok true w := fun dd x w => by
    rw [run_equalIn_int w dd 5 .u8 .u8 x x Tryz.underlying5]
    simp
  have h : ∀ dd : Nat, (Op.equalIn (dd + 2) 198 (.agg #[.int .u8 a, .int .u8 b, .int .u8 c, .int .u8 d]) (.agg #[.int .u8 a, .int .u8 b, .int .u8 c, .int .u8 d])).run Tryz.prog w = .ok true w := fun dd => by
    rw [show dd + 2 = (dd + 1) + 1 from rfl, Op.equalIn]
    have h2 := e dd
    simp [run_underlying Tryz.underlying198, go_sem, h2, List.range']
  exact h 9998

theorem neq4_exec {ev : Operand → Value} {x y : Operand} {o : Oper} {a b c d : Int} {u : TypeId} (ho : o.op = .binOp .neq 198 x y u) (hx : ev x = .agg #[.int .u8 a, .int .u8 b, .int .u8 c, .int .u8 d]) (hy : ev y = .agg #[.int .u8 a, .int .u8 b, .int .u8 c, .int .u8 d]) (w : World) :
    (execOp ev o).run Tryz.prog w = .ok (.value (.bool false)) w := by
  have hm : Tryz.prog.eqGuardType Tryz.prog.depth 198 = false := by kernel_rfl
  have he := arr4_same a b c d w
  have hn := run_neq_struct (P := Tryz.prog) w 198 #[.int .u8 a, .int .u8 b, .int .u8 c, .int .u8 d] #[.int .u8 a, .int .u8 b, .int .u8 c, .int .u8 d]
  generalize (Op.equalIn 10000 198 (.agg #[.int .u8 a, .int .u8 b, .int .u8 c, .int .u8 d]) (.agg #[.int .u8 a, .int .u8 b, .int .u8 c, .int .u8 d])).run Tryz.prog w = res at *
  subst he
  have hg := run_eqGuard_agg (P := Tryz.prog) w .neq 198 x y #[.int .u8 a, .int .u8 b, .int .u8 c, .int .u8 d] #[.int .u8 a, .int .u8 b, .int .u8 c, .int .u8 d] hm
  unfold execOp
  simp only [ho, hx, hy, Sem.run_bind, hg, hn, Result.andThen_ok, Sem.run_pure, Bool.not_true]

theorem Open_sealed (g : Nat) (l : List UInt8) (w : World) (hT : IsTab g w) (hl : l.length ≤ 100000) :
    Calls Tryz.prog 74 #[.pointer (some ⟨g, 0, none⟩), .string (S (sealF l))] w fun e w' => e = .returned (.tuple #[.string (S l), .bool true]) ∧ Below w.heap.size w w' := by
  have n0 := sumF_lo l
  have n1 := sumF_hi l
  have hSum := fun (b : Nat) {W : World} (hT : IsTab g W) (hc : W.cell? ⟨b, 0, none⟩ = some (.string (S l))) => Sum_any g b l W hT hc hl
  have hsz : (S (sealF l)).size = l.length + 4 := by simp [sealF, wordL]
  have hx1 : (S (sealF l)).extract 0 4 = S (wordL (sumF l)) := by
    have := extract_S (sealF l) 0 4
    rw [this]
    simp [sealF, wordL]
  have hx2 : (S (sealF l)).extract 4 (l.length + 4) = S l := by
    have := extract_S (sealF l) 4 (l.length + 4)
    rw [this]
    simp [sealF, wordL]
  have hwd := fun (W : World) => word_any (sumF l) W n0 n1
  have hcv := fun (W : World) => conv_bytes (wordL (sumF l)) W (by simp [wordL])
  have hwl : (wordL (sumF l)).length = 4 := rfl
  have hi1 : ¬ ((l.length + 4 : Nat) : Int) < 4 := by omega
  have hi2 : ¬ l.length + 4 < 4 := by omega
  have hi3 : (4 : Int) ≤ (l.length : Int) + 4 := by omega
  have hi4 : 4 ≤ l.length + 4 := by omega
  have HT := Lib.hid hT
  have HB := Lib.hid (Below.refl w.heap.size w)
  generalize sealF l = sl at *
  generalize sumF l = n at *
  have hbv := Lib.hid (bv_word n n0 n1)
  clear hT
  go_enter Tryz.func74, Tryz.ntmps74
  go_upto_region 1 with (fail)
  refine wp_region_held_drew (S := fun _ => True) (by kernel_rfl) trivial (fun hHeld => ?_)
  have hF : Fx w g none l none (wordL n) w.drew := ⟨HB.out.drew, HT.out, (fun b e => by cases e), (fun b e => by cases e)⟩
  clear HB HT
  generalize w.drew = wc at *
  refine wpAnyH_take (i := 0) (oi := ⟨some 6, _, _, _, _, _⟩) (v := ?_) rfl (by kernel_rfl) (by kernel_rfl) (by kernel_rfl) (fun _ _ _ h => h) (Or.inl ⟨by rfl, (by intro w hSw; (try dsimp only at hSw); go_simp; try with_reducible rfl)⟩) hHeld ?_
  try simp only [Act.put, List.setIfInBounds_toArray, List.set_cons_zero, List.set_cons_succ]
  refine wpAnyH_take (i := 1) (oi := ⟨some 7, _, _, _, _, _⟩) (v := ?_) rfl (by kernel_rfl) (by kernel_rfl) (by kernel_rfl) (fun _ _ _ h => h) (Or.inl ⟨by rfl, (by intro w hSw; (try dsimp only at hSw); go_simp; try with_reducible rfl)⟩) hHeld ?_
  try simp only [Act.put, List.setIfInBounds_toArray, List.set_cons_zero, List.set_cons_succ]
  refine wpAnyH_take (i := 2) (oi := ⟨some 8, _, _, _, _, _⟩) (v := ?_) rfl (by kernel_rfl) (by kernel_rfl) (by kernel_rfl) (fun _ _ _ h => h) (Or.inl ⟨by rfl, (by intro w hSw; (try dsimp only at hSw); go_simp; try with_reducible rfl)⟩) hHeld ?_
  try simp only [Act.put, List.setIfInBounds_toArray, List.set_cons_zero, List.set_cons_succ]
  refine wpAnyH_take (i := 3) (oi := ⟨some 9, _, _, _, _, _⟩) (v := ?_) rfl (by kernel_rfl) (by kernel_rfl) (by kernel_rfl) (fun _ _ _ h => h) (Or.inl ⟨by rfl, (by intro w hSw; (try dsimp only at hSw); go_simp; try with_reducible rfl)⟩) hHeld ?_
  try simp only [Act.put, List.setIfInBounds_toArray, List.set_cons_zero, List.set_cons_succ]
  refine wpAnyH_take (i := 4) (oi := ⟨some 10, _, _, _, _, _⟩) (v := ?_) rfl (by kernel_rfl) (by kernel_rfl) (by kernel_rfl) (fun _ _ _ h => h) (Or.inl ⟨by rfl, (by intro w hSw; (try dsimp only at hSw); go_simp; try with_reducible rfl)⟩) hHeld ?_
  try simp only [Act.put, List.setIfInBounds_toArray, List.set_cons_zero, List.set_cons_succ]
  refine wpAnyH_take (i := 5) (oi := ⟨some 11, _, _, _, _, _⟩) (v := ?_) rfl (by kernel_rfl) (by kernel_rfl) (by kernel_rfl) (fun _ _ _ h => h) (Or.inl ⟨by rfl, (by intro w hSw; (try dsimp only at hSw); go_simp; try with_reducible rfl)⟩) hHeld ?_
  try simp only [Act.put, List.setIfInBounds_toArray, List.set_cons_zero, List.set_cons_succ]
  refine wpAnyH_take (i := 6) (oi := ⟨some 12, _, _, _, _, _⟩) (v := ?_) rfl (by kernel_rfl) (by kernel_rfl) (by kernel_rfl) (fun _ _ _ h => h) (Or.inl ⟨by rfl, (by intro w hSw; (try dsimp only at hSw); go_simp; try with_reducible rfl)⟩) hHeld ?_
  try simp only [Act.put, List.setIfInBounds_toArray, List.set_cons_zero, List.set_cons_succ]
  refine wpAnyH_take (i := 7) (oi := ⟨some 13, _, _, _, _, _⟩) (v := ?_) rfl (by kernel_rfl) (by kernel_rfl) (by kernel_rfl) (fun _ _ _ h => h) (Or.inl ⟨by rfl, (by intro w hSw; (try dsimp only at hSw); go_simp; try with_reducible rfl)⟩) hHeld ?_
  try simp only [Act.put, List.setIfInBounds_toArray, List.set_cons_zero, List.set_cons_succ]
  refine wpAnyH_take (i := 8) (oi := ⟨some 14, _, _, _, _, _⟩) (v := ?_) rfl (by kernel_rfl) (by kernel_rfl) (by kernel_rfl) (fun _ _ _ h => h) (Or.inl ⟨by rfl, (by intro w hSw; (try dsimp only at hSw); go_simp; try with_reducible rfl)⟩) hHeld ?_
  try simp only [Act.put, List.setIfInBounds_toArray, List.set_cons_zero, List.set_cons_succ]
  refine wpAnyH_take (i := 9) (oi := ⟨some 15, _, _, _, _, _⟩) (v := ?_) rfl (by kernel_rfl) (by kernel_rfl) (by kernel_rfl) (fun _ _ _ h => h) (Or.inl ⟨by rfl, (by intro w hSw; (try dsimp only at hSw); go_simp; try with_reducible rfl)⟩) hHeld ?_
  try simp only [Act.put, List.setIfInBounds_toArray, List.set_cons_zero, List.set_cons_succ]
  refine wpAnyH_take (i := 13) (oi := ⟨some 19, _, _, _, _, _⟩) (v := ?_) rfl (by kernel_rfl) (by kernel_rfl) (by kernel_rfl) (fun _ _ _ h => h) (Or.inl ⟨by rfl, (by intro w hSw; (try dsimp only at hSw); go_simp; try with_reducible rfl)⟩) hHeld ?_
  try simp only [Act.put, List.setIfInBounds_toArray, List.set_cons_zero, List.set_cons_succ]
  refine wpAnyH_take (i := 14) (oi := ⟨some 20, _, _, _, _, _⟩) (v := ?_) rfl (by kernel_rfl) (by kernel_rfl) (by kernel_rfl) (fun _ _ _ h => h) (Or.inl ⟨by rfl, (by intro w hSw; (try dsimp only at hSw); go_simp; try with_reducible rfl)⟩) hHeld ?_
  try simp only [Act.put, List.setIfInBounds_toArray, List.set_cons_zero, List.set_cons_succ]
  refine wpAnyH_take (i := 15) (oi := ⟨some 21, _, _, _, _, _⟩) (v := ?_) rfl (by kernel_rfl) (by kernel_rfl) (by kernel_rfl) (fun _ _ _ h => h) (Or.inl ⟨by rfl, (by intro w hSw; (try dsimp only at hSw); go_simp; try with_reducible rfl)⟩) hHeld ?_
  try simp only [Act.put, List.setIfInBounds_toArray, List.set_cons_zero, List.set_cons_succ]
  refine wpAnyH_ready (rs := [10, 16]) (by kernel_rfl) (by simp) ?_
  refine (AllReadyH.cons (o := ⟨some 16, _, _, _, _, _⟩) rfl (fun K hK => ?_) (AllReadyH.cons (o := ⟨some 22, _, _, _, _, _⟩) rfl (fun K hK => ?_) AllReadyH.nil))
  · obtain ⟨bC, hbC⟩ : ∃ b, Hid (b = wc.heap.size) := ⟨_, rfl⟩
    obtain ⟨cap, wn, hrun, hBR, hbel, hlt⟩ := hcv wc
    replace hF := hF.conv hbel (b := wc.heap.size) (fun j u hj => by have := hBR.range j u hj; rwa [Nat.zero_add] at this)
    rw [← hbC.out] at hrun hF
    go_simp
    have hat : ∀ w, (Instr.arrayAt 198 (.slice (some ⟨bC, 0, none⟩) 4 cap)).run Tryz.prog w = .ok (.pointer (some ⟨bC, 0, none⟩)) w := fun w => run_arrayAt w _ _ 4 _ 4 cap Tryz.underlying198 (by decide)
    clear hrun hBR hbel hlt hbC
    clear wc
    rename World => wc
    have hS2 := trivial
    refine hK.out _ _ hS2 (fun hHeld => ?_)
    clear hK K
    try simp only [Act.put, List.setIfInBounds_toArray, List.set_cons_zero, List.set_cons_succ]
    refine wpAnyH_take (i := 11) (oi := ⟨some 17, _, _, _, _, _⟩) (v := ?_) rfl (by kernel_rfl) (by kernel_rfl) (by kernel_rfl) (fun _ _ _ h => h) (Or.inl ⟨by rfl, (by intro w hSw; (try dsimp only at hSw); go_simp; try with_reducible rfl)⟩) hHeld ?_
    try simp only [Act.put, List.setIfInBounds_toArray, List.set_cons_zero, List.set_cons_succ]
    refine wpAnyH_ready (rs := [12, 16]) (by kernel_rfl) (by simp) ?_
    refine (AllReadyH.cons (o := ⟨some 18, _, _, _, _, _⟩) rfl (fun K hK => ?_) (AllReadyH.cons (o := ⟨some 22, _, _, _, _, _⟩) rfl (fun K hK => ?_) AllReadyH.nil))
    · have q0 := hF.2.2.2 bC rfl 0 (.int .u8 (n / 16777216)) (by rw [hbv.out]; rfl)
      have q1 := hF.2.2.2 bC rfl 1 (.int .u8 (n / 65536 % 256)) (by rw [hbv.out]; rfl)
      have q2 := hF.2.2.2 bC rfl 2 (.int .u8 (n / 256 % 256)) (by rw [hbv.out]; rfl)
      have q3 := hF.2.2.2 bC rfl 3 (.int .u8 (n % 256)) (by rw [hbv.out]; rfl)
      go_simp
      clear q0 q1 q2 q3
      have hS2 := trivial
      refine hK.out _ _ hS2 (fun hHeld => ?_)
      clear hK K
      try simp only [Act.put, List.setIfInBounds_toArray, List.set_cons_zero, List.set_cons_succ]
      refine wpAnyH_ready (rs := [16]) (by kernel_rfl) (by simp) ?_
      refine (AllReadyH.cons (o := ⟨some 22, _, _, _, _, _⟩) rfl (fun K hK => ?_) AllReadyH.nil)
      go_simp
      replace hF := hF.list
      obtain ⟨bL, hbL⟩ : ∃ b, b = wc.heap.size := ⟨_, rfl⟩
      rw [← hbL] at hF ⊢
      generalize wc.alloc (.cells #[.string (S l)] 9) = wn at hF ⊢
      clear hbL wc
      rename World => wc
      have hS2 := trivial
      refine hK.out _ _ hS2 (fun hHeld => ?_)
      clear hK K
      try simp only [Act.put, List.setIfInBounds_toArray, List.set_cons_zero, List.set_cons_succ]
      refine wpAnyH_ready (rs := [17]) (by kernel_rfl) (by simp) ?_
      refine (AllReadyH.cons (o := ⟨some 23, _, _, _, _, _⟩) rfl (fun K hK => ?_) AllReadyH.nil)
      go_simp
      refine (hSum bL hF.2.1 (hF.2.2.1 bL rfl)).mono ?_
      rintro e w2 ⟨rfl, m, rfl⟩
      replace hF := hF.below (below_drewN0 wc m)
      generalize wc.drewN m = wn at *
      clear wc
      rename World => wc
      have hS2 := trivial
      refine hK.out _ _ hS2 (fun hHeld => ?_)
      clear hK K
      try simp only [Act.put, List.setIfInBounds_toArray, List.set_cons_zero, List.set_cons_succ]
      refine wpAnyH_ready (rs := [18]) (by kernel_rfl) (by simp) ?_
      refine (AllReadyH.cons (o := ⟨some 24, _, _, _, _, _⟩) rfl (fun K hK => ?_) AllReadyH.nil)
      go_simp
      refine (hwd wc).mono ?_
      rintro e w2 ⟨rfl, hw2⟩
      replace hF := hF.below (show Below wc.heap.size wc w2 by rw [hw2]; exact (Below.refl _ _).alloc (Nat.le_refl _) _)
      clear hw2 wc
      rename World => wc
      have hS2 := trivial
      refine hK.out _ _ hS2 (fun hHeld => ?_)
      clear hK K
      try simp only [Act.put, List.setIfInBounds_toArray, List.set_cons_zero, List.set_cons_succ]
      refine wpAnyH_take (i := 19) (oi := ⟨some 25, _, _, _, _, _⟩) (v := .bool false) rfl (by kernel_rfl) (by kernel_rfl) (by kernel_rfl) (fun _ _ _ h => h) (Or.inl ⟨by rfl, fun w _ => neq4_exec rfl rfl rfl w⟩) hHeld ?_
      try simp only [Act.put, List.setIfInBounds_toArray, List.set_cons_zero, List.set_cons_succ]
      refine wpAnyH_take (i := 20) (oi := ⟨some 26, _, _, _, _, _⟩) (v := ?_) rfl (by kernel_rfl) (by kernel_rfl) (by kernel_rfl) (fun _ _ _ h => h) (Or.inl ⟨by rfl, (by intro w hSw; (try dsimp only at hSw); go_simp; try with_reducible rfl)⟩) hHeld ?_
      try simp only [Act.put, List.setIfInBounds_toArray, List.set_cons_zero, List.set_cons_succ]
      refine wpAnyH_done (by kernel_rfl) ?_ _
      clear hSum hcv hwd hHeld hS2
      go_wp2
      go_ret2
      exact ⟨rfl, hF.1⟩
    · go_simp
      replace hF := hF.list
      obtain ⟨bL, hbL⟩ : ∃ b, b = wc.heap.size := ⟨_, rfl⟩
      rw [← hbL] at hF ⊢
      generalize wc.alloc (.cells #[.string (S l)] 9) = wn at hF ⊢
      clear hbL wc
      rename World => wc
      have hS2 := trivial
      refine hK.out _ _ hS2 (fun hHeld => ?_)
      clear hK K
      try simp only [Act.put, List.setIfInBounds_toArray, List.set_cons_zero, List.set_cons_succ]
      refine wpAnyH_ready (rs := [12, 17]) (by kernel_rfl) (by simp) ?_
      refine (AllReadyH.cons (o := ⟨some 18, _, _, _, _, _⟩) rfl (fun K hK => ?_) (AllReadyH.cons (o := ⟨some 23, _, _, _, _, _⟩) rfl (fun K hK => ?_) AllReadyH.nil))
      · have q0 := hF.2.2.2 bC rfl 0 (.int .u8 (n / 16777216)) (by rw [hbv.out]; rfl)
        have q1 := hF.2.2.2 bC rfl 1 (.int .u8 (n / 65536 % 256)) (by rw [hbv.out]; rfl)
        have q2 := hF.2.2.2 bC rfl 2 (.int .u8 (n / 256 % 256)) (by rw [hbv.out]; rfl)
        have q3 := hF.2.2.2 bC rfl 3 (.int .u8 (n % 256)) (by rw [hbv.out]; rfl)
        go_simp
        clear q0 q1 q2 q3
        have hS2 := trivial
        refine hK.out _ _ hS2 (fun hHeld => ?_)
        clear hK K
        try simp only [Act.put, List.setIfInBounds_toArray, List.set_cons_zero, List.set_cons_succ]
        refine wpAnyH_ready (rs := [17]) (by kernel_rfl) (by simp) ?_
        refine (AllReadyH.cons (o := ⟨some 23, _, _, _, _, _⟩) rfl (fun K hK => ?_) AllReadyH.nil)
        go_simp
        refine (hSum bL hF.2.1 (hF.2.2.1 bL rfl)).mono ?_
        rintro e w2 ⟨rfl, m, rfl⟩
        replace hF := hF.below (below_drewN0 wc m)
        generalize wc.drewN m = wn at *
        clear wc
        rename World => wc
        have hS2 := trivial
        refine hK.out _ _ hS2 (fun hHeld => ?_)
        clear hK K
        try simp only [Act.put, List.setIfInBounds_toArray, List.set_cons_zero, List.set_cons_succ]
        refine wpAnyH_ready (rs := [18]) (by kernel_rfl) (by simp) ?_
        refine (AllReadyH.cons (o := ⟨some 24, _, _, _, _, _⟩) rfl (fun K hK => ?_) AllReadyH.nil)
        go_simp
        refine (hwd wc).mono ?_
        rintro e w2 ⟨rfl, hw2⟩
        replace hF := hF.below (show Below wc.heap.size wc w2 by rw [hw2]; exact (Below.refl _ _).alloc (Nat.le_refl _) _)
        clear hw2 wc
        rename World => wc
        have hS2 := trivial
        refine hK.out _ _ hS2 (fun hHeld => ?_)
        clear hK K
        try simp only [Act.put, List.setIfInBounds_toArray, List.set_cons_zero, List.set_cons_succ]
        refine wpAnyH_take (i := 19) (oi := ⟨some 25, _, _, _, _, _⟩) (v := .bool false) rfl (by kernel_rfl) (by kernel_rfl) (by kernel_rfl) (fun _ _ _ h => h) (Or.inl ⟨by rfl, fun w _ => neq4_exec rfl rfl rfl w⟩) hHeld ?_
        try simp only [Act.put, List.setIfInBounds_toArray, List.set_cons_zero, List.set_cons_succ]
        refine wpAnyH_take (i := 20) (oi := ⟨some 26, _, _, _, _, _⟩) (v := ?_) rfl (by kernel_rfl) (by kernel_rfl) (by kernel_rfl) (fun _ _ _ h => h) (Or.inl ⟨by rfl, (by intro w hSw; (try dsimp only at hSw); go_simp; try with_reducible rfl)⟩) hHeld ?_
        try simp only [Act.put, List.setIfInBounds_toArray, List.set_cons_zero, List.set_cons_succ]
        refine wpAnyH_done (by kernel_rfl) ?_ _
        clear hSum hcv hwd hHeld hS2
        go_wp2
        go_ret2
        exact ⟨rfl, hF.1⟩
      · go_simp
        refine (hSum bL hF.2.1 (hF.2.2.1 bL rfl)).mono ?_
        rintro e w2 ⟨rfl, m, rfl⟩
        replace hF := hF.below (below_drewN0 wc m)
        generalize wc.drewN m = wn at *
        clear wc
        rename World => wc
        have hS2 := trivial
        refine hK.out _ _ hS2 (fun hHeld => ?_)
        clear hK K
        try simp only [Act.put, List.setIfInBounds_toArray, List.set_cons_zero, List.set_cons_succ]
        refine wpAnyH_ready (rs := [12, 18]) (by kernel_rfl) (by simp) ?_
        refine (AllReadyH.cons (o := ⟨some 18, _, _, _, _, _⟩) rfl (fun K hK => ?_) (AllReadyH.cons (o := ⟨some 24, _, _, _, _, _⟩) rfl (fun K hK => ?_) AllReadyH.nil))
        · have q0 := hF.2.2.2 bC rfl 0 (.int .u8 (n / 16777216)) (by rw [hbv.out]; rfl)
          have q1 := hF.2.2.2 bC rfl 1 (.int .u8 (n / 65536 % 256)) (by rw [hbv.out]; rfl)
          have q2 := hF.2.2.2 bC rfl 2 (.int .u8 (n / 256 % 256)) (by rw [hbv.out]; rfl)
          have q3 := hF.2.2.2 bC rfl 3 (.int .u8 (n % 256)) (by rw [hbv.out]; rfl)
          go_simp
          clear q0 q1 q2 q3
          have hS2 := trivial
          refine hK.out _ _ hS2 (fun hHeld => ?_)
          clear hK K
          try simp only [Act.put, List.setIfInBounds_toArray, List.set_cons_zero, List.set_cons_succ]
          refine wpAnyH_ready (rs := [18]) (by kernel_rfl) (by simp) ?_
          refine (AllReadyH.cons (o := ⟨some 24, _, _, _, _, _⟩) rfl (fun K hK => ?_) AllReadyH.nil)
          go_simp
          refine (hwd wc).mono ?_
          rintro e w2 ⟨rfl, hw2⟩
          replace hF := hF.below (show Below wc.heap.size wc w2 by rw [hw2]; exact (Below.refl _ _).alloc (Nat.le_refl _) _)
          clear hw2 wc
          rename World => wc
          have hS2 := trivial
          refine hK.out _ _ hS2 (fun hHeld => ?_)
          clear hK K
          try simp only [Act.put, List.setIfInBounds_toArray, List.set_cons_zero, List.set_cons_succ]
          refine wpAnyH_take (i := 19) (oi := ⟨some 25, _, _, _, _, _⟩) (v := .bool false) rfl (by kernel_rfl) (by kernel_rfl) (by kernel_rfl) (fun _ _ _ h => h) (Or.inl ⟨by rfl, fun w _ => neq4_exec rfl rfl rfl w⟩) hHeld ?_
          try simp only [Act.put, List.setIfInBounds_toArray, List.set_cons_zero, List.set_cons_succ]
          refine wpAnyH_take (i := 20) (oi := ⟨some 26, _, _, _, _, _⟩) (v := ?_) rfl (by kernel_rfl) (by kernel_rfl) (by kernel_rfl) (fun _ _ _ h => h) (Or.inl ⟨by rfl, (by intro w hSw; (try dsimp only at hSw); go_simp; try with_reducible rfl)⟩) hHeld ?_
          try simp only [Act.put, List.setIfInBounds_toArray, List.set_cons_zero, List.set_cons_succ]
          refine wpAnyH_done (by kernel_rfl) ?_ _
          clear hSum hcv hwd hHeld hS2
          go_wp2
          go_ret2
          exact ⟨rfl, hF.1⟩
        · go_simp
          refine (hwd wc).mono ?_
          rintro e w2 ⟨rfl, hw2⟩
          replace hF := hF.below (show Below wc.heap.size wc w2 by rw [hw2]; exact (Below.refl _ _).alloc (Nat.le_refl _) _)
          clear hw2 wc
          rename World => wc
          have hS2 := trivial
          refine hK.out _ _ hS2 (fun hHeld => ?_)
          clear hK K
          try simp only [Act.put, List.setIfInBounds_toArray, List.set_cons_zero, List.set_cons_succ]
          refine wpAnyH_ready (rs := [12]) (by kernel_rfl) (by simp) ?_
          refine (AllReadyH.cons (o := ⟨some 18, _, _, _, _, _⟩) rfl (fun K hK => ?_) AllReadyH.nil)
          have q0 := hF.2.2.2 bC rfl 0 (.int .u8 (n / 16777216)) (by rw [hbv.out]; rfl)
          have q1 := hF.2.2.2 bC rfl 1 (.int .u8 (n / 65536 % 256)) (by rw [hbv.out]; rfl)
          have q2 := hF.2.2.2 bC rfl 2 (.int .u8 (n / 256 % 256)) (by rw [hbv.out]; rfl)
          have q3 := hF.2.2.2 bC rfl 3 (.int .u8 (n % 256)) (by rw [hbv.out]; rfl)
          go_simp
          clear q0 q1 q2 q3
          have hS2 := trivial
          refine hK.out _ _ hS2 (fun hHeld => ?_)
          clear hK K
          try simp only [Act.put, List.setIfInBounds_toArray, List.set_cons_zero, List.set_cons_succ]
          refine wpAnyH_take (i := 19) (oi := ⟨some 25, _, _, _, _, _⟩) (v := .bool false) rfl (by kernel_rfl) (by kernel_rfl) (by kernel_rfl) (fun _ _ _ h => h) (Or.inl ⟨by rfl, fun w _ => neq4_exec rfl rfl rfl w⟩) hHeld ?_
          try simp only [Act.put, List.setIfInBounds_toArray, List.set_cons_zero, List.set_cons_succ]
          refine wpAnyH_take (i := 20) (oi := ⟨some 26, _, _, _, _, _⟩) (v := ?_) rfl (by kernel_rfl) (by kernel_rfl) (by kernel_rfl) (fun _ _ _ h => h) (Or.inl ⟨by rfl, (by intro w hSw; (try dsimp only at hSw); go_simp; try with_reducible rfl)⟩) hHeld ?_
          try simp only [Act.put, List.setIfInBounds_toArray, List.set_cons_zero, List.set_cons_succ]
          refine wpAnyH_done (by kernel_rfl) ?_ _
          clear hSum hcv hwd hHeld hS2
          go_wp2
          go_ret2
          exact ⟨rfl, hF.1⟩
  · go_simp
    replace hF := hF.list
    obtain ⟨bL, hbL⟩ : ∃ b, b = wc.heap.size := ⟨_, rfl⟩
    rw [← hbL] at hF ⊢
    generalize wc.alloc (.cells #[.string (S l)] 9) = wn at hF ⊢
    clear hbL wc
    rename World => wc
    have hS2 := trivial
    refine hK.out _ _ hS2 (fun hHeld => ?_)
    clear hK K
    try simp only [Act.put, List.setIfInBounds_toArray, List.set_cons_zero, List.set_cons_succ]
    refine wpAnyH_ready (rs := [10, 17]) (by kernel_rfl) (by simp) ?_
    refine (AllReadyH.cons (o := ⟨some 16, _, _, _, _, _⟩) rfl (fun K hK => ?_) (AllReadyH.cons (o := ⟨some 23, _, _, _, _, _⟩) rfl (fun K hK => ?_) AllReadyH.nil))
    · obtain ⟨bC, hbC⟩ : ∃ b, Hid (b = wc.heap.size) := ⟨_, rfl⟩
      obtain ⟨cap, wn, hrun, hBR, hbel, hlt⟩ := hcv wc
      replace hF := hF.conv hbel (b := wc.heap.size) (fun j u hj => by have := hBR.range j u hj; rwa [Nat.zero_add] at this)
      rw [← hbC.out] at hrun hF
      go_simp
      have hat : ∀ w, (Instr.arrayAt 198 (.slice (some ⟨bC, 0, none⟩) 4 cap)).run Tryz.prog w = .ok (.pointer (some ⟨bC, 0, none⟩)) w := fun w => run_arrayAt w _ _ 4 _ 4 cap Tryz.underlying198 (by decide)
      clear hrun hBR hbel hlt hbC
      clear wc
      rename World => wc
      have hS2 := trivial
      refine hK.out _ _ hS2 (fun hHeld => ?_)
      clear hK K
      try simp only [Act.put, List.setIfInBounds_toArray, List.set_cons_zero, List.set_cons_succ]
      refine wpAnyH_take (i := 11) (oi := ⟨some 17, _, _, _, _, _⟩) (v := ?_) rfl (by kernel_rfl) (by kernel_rfl) (by kernel_rfl) (fun _ _ _ h => h) (Or.inl ⟨by rfl, (by intro w hSw; (try dsimp only at hSw); go_simp; try with_reducible rfl)⟩) hHeld ?_
      try simp only [Act.put, List.setIfInBounds_toArray, List.set_cons_zero, List.set_cons_succ]
      refine wpAnyH_ready (rs := [12, 17]) (by kernel_rfl) (by simp) ?_
      refine (AllReadyH.cons (o := ⟨some 18, _, _, _, _, _⟩) rfl (fun K hK => ?_) (AllReadyH.cons (o := ⟨some 23, _, _, _, _, _⟩) rfl (fun K hK => ?_) AllReadyH.nil))
      · have q0 := hF.2.2.2 bC rfl 0 (.int .u8 (n / 16777216)) (by rw [hbv.out]; rfl)
        have q1 := hF.2.2.2 bC rfl 1 (.int .u8 (n / 65536 % 256)) (by rw [hbv.out]; rfl)
        have q2 := hF.2.2.2 bC rfl 2 (.int .u8 (n / 256 % 256)) (by rw [hbv.out]; rfl)
        have q3 := hF.2.2.2 bC rfl 3 (.int .u8 (n % 256)) (by rw [hbv.out]; rfl)
        go_simp
        clear q0 q1 q2 q3
        have hS2 := trivial
        refine hK.out _ _ hS2 (fun hHeld => ?_)
        clear hK K
        try simp only [Act.put, List.setIfInBounds_toArray, List.set_cons_zero, List.set_cons_succ]
        refine wpAnyH_ready (rs := [17]) (by kernel_rfl) (by simp) ?_
        refine (AllReadyH.cons (o := ⟨some 23, _, _, _, _, _⟩) rfl (fun K hK => ?_) AllReadyH.nil)
        go_simp
        refine (hSum bL hF.2.1 (hF.2.2.1 bL rfl)).mono ?_
        rintro e w2 ⟨rfl, m, rfl⟩
        replace hF := hF.below (below_drewN0 wc m)
        generalize wc.drewN m = wn at *
        clear wc
        rename World => wc
        have hS2 := trivial
        refine hK.out _ _ hS2 (fun hHeld => ?_)
        clear hK K
        try simp only [Act.put, List.setIfInBounds_toArray, List.set_cons_zero, List.set_cons_succ]
        refine wpAnyH_ready (rs := [18]) (by kernel_rfl) (by simp) ?_
        refine (AllReadyH.cons (o := ⟨some 24, _, _, _, _, _⟩) rfl (fun K hK => ?_) AllReadyH.nil)
        go_simp
        refine (hwd wc).mono ?_
        rintro e w2 ⟨rfl, hw2⟩
        replace hF := hF.below (show Below wc.heap.size wc w2 by rw [hw2]; exact (Below.refl _ _).alloc (Nat.le_refl _) _)
        clear hw2 wc
        rename World => wc
        have hS2 := trivial
        refine hK.out _ _ hS2 (fun hHeld => ?_)
        clear hK K
        try simp only [Act.put, List.setIfInBounds_toArray, List.set_cons_zero, List.set_cons_succ]
        refine wpAnyH_take (i := 19) (oi := ⟨some 25, _, _, _, _, _⟩) (v := .bool false) rfl (by kernel_rfl) (by kernel_rfl) (by kernel_rfl) (fun _ _ _ h => h) (Or.inl ⟨by rfl, fun w _ => neq4_exec rfl rfl rfl w⟩) hHeld ?_
        try simp only [Act.put, List.setIfInBounds_toArray, List.set_cons_zero, List.set_cons_succ]
        refine wpAnyH_take (i := 20) (oi := ⟨some 26, _, _, _, _, _⟩) (v := ?_) rfl (by kernel_rfl) (by kernel_rfl) (by kernel_rfl) (fun _ _ _ h => h) (Or.inl ⟨by rfl, (by intro w hSw; (try dsimp only at hSw); go_simp; try with_reducible rfl)⟩) hHeld ?_
        try simp only [Act.put, List.setIfInBounds_toArray, List.set_cons_zero, List.set_cons_succ]
        refine wpAnyH_done (by kernel_rfl) ?_ _
        clear hSum hcv hwd hHeld hS2
        go_wp2
        go_ret2
        exact ⟨rfl, hF.1⟩
      · go_simp
        refine (hSum bL hF.2.1 (hF.2.2.1 bL rfl)).mono ?_
        rintro e w2 ⟨rfl, m, rfl⟩
        replace hF := hF.below (below_drewN0 wc m)
        generalize wc.drewN m = wn at *
        clear wc
        rename World => wc
        have hS2 := trivial
        refine hK.out _ _ hS2 (fun hHeld => ?_)
        clear hK K
        try simp only [Act.put, List.setIfInBounds_toArray, List.set_cons_zero, List.set_cons_succ]
        refine wpAnyH_ready (rs := [12, 18]) (by kernel_rfl) (by simp) ?_
        refine (AllReadyH.cons (o := ⟨some 18, _, _, _, _, _⟩) rfl (fun K hK => ?_) (AllReadyH.cons (o := ⟨some 24, _, _, _, _, _⟩) rfl (fun K hK => ?_) AllReadyH.nil))
        · have q0 := hF.2.2.2 bC rfl 0 (.int .u8 (n / 16777216)) (by rw [hbv.out]; rfl)
          have q1 := hF.2.2.2 bC rfl 1 (.int .u8 (n / 65536 % 256)) (by rw [hbv.out]; rfl)
          have q2 := hF.2.2.2 bC rfl 2 (.int .u8 (n / 256 % 256)) (by rw [hbv.out]; rfl)
          have q3 := hF.2.2.2 bC rfl 3 (.int .u8 (n % 256)) (by rw [hbv.out]; rfl)
          go_simp
          clear q0 q1 q2 q3
          have hS2 := trivial
          refine hK.out _ _ hS2 (fun hHeld => ?_)
          clear hK K
          try simp only [Act.put, List.setIfInBounds_toArray, List.set_cons_zero, List.set_cons_succ]
          refine wpAnyH_ready (rs := [18]) (by kernel_rfl) (by simp) ?_
          refine (AllReadyH.cons (o := ⟨some 24, _, _, _, _, _⟩) rfl (fun K hK => ?_) AllReadyH.nil)
          go_simp
          refine (hwd wc).mono ?_
          rintro e w2 ⟨rfl, hw2⟩
          replace hF := hF.below (show Below wc.heap.size wc w2 by rw [hw2]; exact (Below.refl _ _).alloc (Nat.le_refl _) _)
          clear hw2 wc
          rename World => wc
          have hS2 := trivial
          refine hK.out _ _ hS2 (fun hHeld => ?_)
          clear hK K
          try simp only [Act.put, List.setIfInBounds_toArray, List.set_cons_zero, List.set_cons_succ]
          refine wpAnyH_take (i := 19) (oi := ⟨some 25, _, _, _, _, _⟩) (v := .bool false) rfl (by kernel_rfl) (by kernel_rfl) (by kernel_rfl) (fun _ _ _ h => h) (Or.inl ⟨by rfl, fun w _ => neq4_exec rfl rfl rfl w⟩) hHeld ?_
          try simp only [Act.put, List.setIfInBounds_toArray, List.set_cons_zero, List.set_cons_succ]
          refine wpAnyH_take (i := 20) (oi := ⟨some 26, _, _, _, _, _⟩) (v := ?_) rfl (by kernel_rfl) (by kernel_rfl) (by kernel_rfl) (fun _ _ _ h => h) (Or.inl ⟨by rfl, (by intro w hSw; (try dsimp only at hSw); go_simp; try with_reducible rfl)⟩) hHeld ?_
          try simp only [Act.put, List.setIfInBounds_toArray, List.set_cons_zero, List.set_cons_succ]
          refine wpAnyH_done (by kernel_rfl) ?_ _
          clear hSum hcv hwd hHeld hS2
          go_wp2
          go_ret2
          exact ⟨rfl, hF.1⟩
        · go_simp
          refine (hwd wc).mono ?_
          rintro e w2 ⟨rfl, hw2⟩
          replace hF := hF.below (show Below wc.heap.size wc w2 by rw [hw2]; exact (Below.refl _ _).alloc (Nat.le_refl _) _)
          clear hw2 wc
          rename World => wc
          have hS2 := trivial
          refine hK.out _ _ hS2 (fun hHeld => ?_)
          clear hK K
          try simp only [Act.put, List.setIfInBounds_toArray, List.set_cons_zero, List.set_cons_succ]
          refine wpAnyH_ready (rs := [12]) (by kernel_rfl) (by simp) ?_
          refine (AllReadyH.cons (o := ⟨some 18, _, _, _, _, _⟩) rfl (fun K hK => ?_) AllReadyH.nil)
          have q0 := hF.2.2.2 bC rfl 0 (.int .u8 (n / 16777216)) (by rw [hbv.out]; rfl)
          have q1 := hF.2.2.2 bC rfl 1 (.int .u8 (n / 65536 % 256)) (by rw [hbv.out]; rfl)
          have q2 := hF.2.2.2 bC rfl 2 (.int .u8 (n / 256 % 256)) (by rw [hbv.out]; rfl)
          have q3 := hF.2.2.2 bC rfl 3 (.int .u8 (n % 256)) (by rw [hbv.out]; rfl)
          go_simp
          clear q0 q1 q2 q3
          have hS2 := trivial
          refine hK.out _ _ hS2 (fun hHeld => ?_)
          clear hK K
          try simp only [Act.put, List.setIfInBounds_toArray, List.set_cons_zero, List.set_cons_succ]
          refine wpAnyH_take (i := 19) (oi := ⟨some 25, _, _, _, _, _⟩) (v := .bool false) rfl (by kernel_rfl) (by kernel_rfl) (by kernel_rfl) (fun _ _ _ h => h) (Or.inl ⟨by rfl, fun w _ => neq4_exec rfl rfl rfl w⟩) hHeld ?_
          try simp only [Act.put, List.setIfInBounds_toArray, List.set_cons_zero, List.set_cons_succ]
          refine wpAnyH_take (i := 20) (oi := ⟨some 26, _, _, _, _, _⟩) (v := ?_) rfl (by kernel_rfl) (by kernel_rfl) (by kernel_rfl) (fun _ _ _ h => h) (Or.inl ⟨by rfl, (by intro w hSw; (try dsimp only at hSw); go_simp; try with_reducible rfl)⟩) hHeld ?_
          try simp only [Act.put, List.setIfInBounds_toArray, List.set_cons_zero, List.set_cons_succ]
          refine wpAnyH_done (by kernel_rfl) ?_ _
          clear hSum hcv hwd hHeld hS2
          go_wp2
          go_ret2
          exact ⟨rfl, hF.1⟩
    · go_simp
      refine (hSum bL hF.2.1 (hF.2.2.1 bL rfl)).mono ?_
      rintro e w2 ⟨rfl, m, rfl⟩
      replace hF := hF.below (below_drewN0 wc m)
      generalize wc.drewN m = wn at *
      clear wc
      rename World => wc
      have hS2 := trivial
      refine hK.out _ _ hS2 (fun hHeld => ?_)
      clear hK K
      try simp only [Act.put, List.setIfInBounds_toArray, List.set_cons_zero, List.set_cons_succ]
      refine wpAnyH_ready (rs := [10, 18]) (by kernel_rfl) (by simp) ?_
      refine (AllReadyH.cons (o := ⟨some 16, _, _, _, _, _⟩) rfl (fun K hK => ?_) (AllReadyH.cons (o := ⟨some 24, _, _, _, _, _⟩) rfl (fun K hK => ?_) AllReadyH.nil))
      · obtain ⟨bC, hbC⟩ : ∃ b, Hid (b = wc.heap.size) := ⟨_, rfl⟩
        obtain ⟨cap, wn, hrun, hBR, hbel, hlt⟩ := hcv wc
        replace hF := hF.conv hbel (b := wc.heap.size) (fun j u hj => by have := hBR.range j u hj; rwa [Nat.zero_add] at this)
        rw [← hbC.out] at hrun hF
        go_simp
        have hat : ∀ w, (Instr.arrayAt 198 (.slice (some ⟨bC, 0, none⟩) 4 cap)).run Tryz.prog w = .ok (.pointer (some ⟨bC, 0, none⟩)) w := fun w => run_arrayAt w _ _ 4 _ 4 cap Tryz.underlying198 (by decide)
        clear hrun hBR hbel hlt hbC
        clear wc
        rename World => wc
        have hS2 := trivial
        refine hK.out _ _ hS2 (fun hHeld => ?_)
        clear hK K
        try simp only [Act.put, List.setIfInBounds_toArray, List.set_cons_zero, List.set_cons_succ]
        refine wpAnyH_take (i := 11) (oi := ⟨some 17, _, _, _, _, _⟩) (v := ?_) rfl (by kernel_rfl) (by kernel_rfl) (by kernel_rfl) (fun _ _ _ h => h) (Or.inl ⟨by rfl, (by intro w hSw; (try dsimp only at hSw); go_simp; try with_reducible rfl)⟩) hHeld ?_
        try simp only [Act.put, List.setIfInBounds_toArray, List.set_cons_zero, List.set_cons_succ]
        refine wpAnyH_ready (rs := [12, 18]) (by kernel_rfl) (by simp) ?_
        refine (AllReadyH.cons (o := ⟨some 18, _, _, _, _, _⟩) rfl (fun K hK => ?_) (AllReadyH.cons (o := ⟨some 24, _, _, _, _, _⟩) rfl (fun K hK => ?_) AllReadyH.nil))
        · have q0 := hF.2.2.2 bC rfl 0 (.int .u8 (n / 16777216)) (by rw [hbv.out]; rfl)
          have q1 := hF.2.2.2 bC rfl 1 (.int .u8 (n / 65536 % 256)) (by rw [hbv.out]; rfl)
          have q2 := hF.2.2.2 bC rfl 2 (.int .u8 (n / 256 % 256)) (by rw [hbv.out]; rfl)
          have q3 := hF.2.2.2 bC rfl 3 (.int .u8 (n % 256)) (by rw [hbv.out]; rfl)
          go_simp
          clear q0 q1 q2 q3
          have hS2 := trivial
          refine hK.out _ _ hS2 (fun hHeld => ?_)
          clear hK K
          try simp only [Act.put, List.setIfInBounds_toArray, List.set_cons_zero, List.set_cons_succ]
          refine wpAnyH_ready (rs := [18]) (by kernel_rfl) (by simp) ?_
          refine (AllReadyH.cons (o := ⟨some 24, _, _, _, _, _⟩) rfl (fun K hK => ?_) AllReadyH.nil)
          go_simp
          refine (hwd wc).mono ?_
          rintro e w2 ⟨rfl, hw2⟩
          replace hF := hF.below (show Below wc.heap.size wc w2 by rw [hw2]; exact (Below.refl _ _).alloc (Nat.le_refl _) _)
          clear hw2 wc
          rename World => wc
          have hS2 := trivial
          refine hK.out _ _ hS2 (fun hHeld => ?_)
          clear hK K
          try simp only [Act.put, List.setIfInBounds_toArray, List.set_cons_zero, List.set_cons_succ]
          refine wpAnyH_take (i := 19) (oi := ⟨some 25, _, _, _, _, _⟩) (v := .bool false) rfl (by kernel_rfl) (by kernel_rfl) (by kernel_rfl) (fun _ _ _ h => h) (Or.inl ⟨by rfl, fun w _ => neq4_exec rfl rfl rfl w⟩) hHeld ?_
          try simp only [Act.put, List.setIfInBounds_toArray, List.set_cons_zero, List.set_cons_succ]
          refine wpAnyH_take (i := 20) (oi := ⟨some 26, _, _, _, _, _⟩) (v := ?_) rfl (by kernel_rfl) (by kernel_rfl) (by kernel_rfl) (fun _ _ _ h => h) (Or.inl ⟨by rfl, (by intro w hSw; (try dsimp only at hSw); go_simp; try with_reducible rfl)⟩) hHeld ?_
          try simp only [Act.put, List.setIfInBounds_toArray, List.set_cons_zero, List.set_cons_succ]
          refine wpAnyH_done (by kernel_rfl) ?_ _
          clear hSum hcv hwd hHeld hS2
          go_wp2
          go_ret2
          exact ⟨rfl, hF.1⟩
        · go_simp
          refine (hwd wc).mono ?_
          rintro e w2 ⟨rfl, hw2⟩
          replace hF := hF.below (show Below wc.heap.size wc w2 by rw [hw2]; exact (Below.refl _ _).alloc (Nat.le_refl _) _)
          clear hw2 wc
          rename World => wc
          have hS2 := trivial
          refine hK.out _ _ hS2 (fun hHeld => ?_)
          clear hK K
          try simp only [Act.put, List.setIfInBounds_toArray, List.set_cons_zero, List.set_cons_succ]
          refine wpAnyH_ready (rs := [12]) (by kernel_rfl) (by simp) ?_
          refine (AllReadyH.cons (o := ⟨some 18, _, _, _, _, _⟩) rfl (fun K hK => ?_) AllReadyH.nil)
          have q0 := hF.2.2.2 bC rfl 0 (.int .u8 (n / 16777216)) (by rw [hbv.out]; rfl)
          have q1 := hF.2.2.2 bC rfl 1 (.int .u8 (n / 65536 % 256)) (by rw [hbv.out]; rfl)
          have q2 := hF.2.2.2 bC rfl 2 (.int .u8 (n / 256 % 256)) (by rw [hbv.out]; rfl)
          have q3 := hF.2.2.2 bC rfl 3 (.int .u8 (n % 256)) (by rw [hbv.out]; rfl)
          go_simp
          clear q0 q1 q2 q3
          have hS2 := trivial
          refine hK.out _ _ hS2 (fun hHeld => ?_)
          clear hK K
          try simp only [Act.put, List.setIfInBounds_toArray, List.set_cons_zero, List.set_cons_succ]
          refine wpAnyH_take (i := 19) (oi := ⟨some 25, _, _, _, _, _⟩) (v := .bool false) rfl (by kernel_rfl) (by kernel_rfl) (by kernel_rfl) (fun _ _ _ h => h) (Or.inl ⟨by rfl, fun w _ => neq4_exec rfl rfl rfl w⟩) hHeld ?_
          try simp only [Act.put, List.setIfInBounds_toArray, List.set_cons_zero, List.set_cons_succ]
          refine wpAnyH_take (i := 20) (oi := ⟨some 26, _, _, _, _, _⟩) (v := ?_) rfl (by kernel_rfl) (by kernel_rfl) (by kernel_rfl) (fun _ _ _ h => h) (Or.inl ⟨by rfl, (by intro w hSw; (try dsimp only at hSw); go_simp; try with_reducible rfl)⟩) hHeld ?_
          try simp only [Act.put, List.setIfInBounds_toArray, List.set_cons_zero, List.set_cons_succ]
          refine wpAnyH_done (by kernel_rfl) ?_ _
          clear hSum hcv hwd hHeld hS2
          go_wp2
          go_ret2
          exact ⟨rfl, hF.1⟩
      · go_simp
        refine (hwd wc).mono ?_
        rintro e w2 ⟨rfl, hw2⟩
        replace hF := hF.below (show Below wc.heap.size wc w2 by rw [hw2]; exact (Below.refl _ _).alloc (Nat.le_refl _) _)
        clear hw2 wc
        rename World => wc
        have hS2 := trivial
        refine hK.out _ _ hS2 (fun hHeld => ?_)
        clear hK K
        try simp only [Act.put, List.setIfInBounds_toArray, List.set_cons_zero, List.set_cons_succ]
        refine wpAnyH_ready (rs := [10]) (by kernel_rfl) (by simp) ?_
        refine (AllReadyH.cons (o := ⟨some 16, _, _, _, _, _⟩) rfl (fun K hK => ?_) AllReadyH.nil)
        obtain ⟨bC, hbC⟩ : ∃ b, Hid (b = wc.heap.size) := ⟨_, rfl⟩
        obtain ⟨cap, wn, hrun, hBR, hbel, hlt⟩ := hcv wc
        replace hF := hF.conv hbel (b := wc.heap.size) (fun j u hj => by have := hBR.range j u hj; rwa [Nat.zero_add] at this)
        rw [← hbC.out] at hrun hF
        go_simp
        have hat : ∀ w, (Instr.arrayAt 198 (.slice (some ⟨bC, 0, none⟩) 4 cap)).run Tryz.prog w = .ok (.pointer (some ⟨bC, 0, none⟩)) w := fun w => run_arrayAt w _ _ 4 _ 4 cap Tryz.underlying198 (by decide)
        clear hrun hBR hbel hlt hbC
        clear wc
        rename World => wc
        have hS2 := trivial
        refine hK.out _ _ hS2 (fun hHeld => ?_)
        clear hK K
        try simp only [Act.put, List.setIfInBounds_toArray, List.set_cons_zero, List.set_cons_succ]
        refine wpAnyH_take (i := 11) (oi := ⟨some 17, _, _, _, _, _⟩) (v := ?_) rfl (by kernel_rfl) (by kernel_rfl) (by kernel_rfl) (fun _ _ _ h => h) (Or.inl ⟨by rfl, (by intro w hSw; (try dsimp only at hSw); go_simp; try with_reducible rfl)⟩) hHeld ?_
        try simp only [Act.put, List.setIfInBounds_toArray, List.set_cons_zero, List.set_cons_succ]
        refine wpAnyH_ready (rs := [12]) (by kernel_rfl) (by simp) ?_
        refine (AllReadyH.cons (o := ⟨some 18, _, _, _, _, _⟩) rfl (fun K hK => ?_) AllReadyH.nil)
        have q0 := hF.2.2.2 bC rfl 0 (.int .u8 (n / 16777216)) (by rw [hbv.out]; rfl)
        have q1 := hF.2.2.2 bC rfl 1 (.int .u8 (n / 65536 % 256)) (by rw [hbv.out]; rfl)
        have q2 := hF.2.2.2 bC rfl 2 (.int .u8 (n / 256 % 256)) (by rw [hbv.out]; rfl)
        have q3 := hF.2.2.2 bC rfl 3 (.int .u8 (n % 256)) (by rw [hbv.out]; rfl)
        go_simp
        clear q0 q1 q2 q3
        have hS2 := trivial
        refine hK.out _ _ hS2 (fun hHeld => ?_)
        clear hK K
        try simp only [Act.put, List.setIfInBounds_toArray, List.set_cons_zero, List.set_cons_succ]
        refine wpAnyH_take (i := 19) (oi := ⟨some 25, _, _, _, _, _⟩) (v := .bool false) rfl (by kernel_rfl) (by kernel_rfl) (by kernel_rfl) (fun _ _ _ h => h) (Or.inl ⟨by rfl, fun w _ => neq4_exec rfl rfl rfl w⟩) hHeld ?_
        try simp only [Act.put, List.setIfInBounds_toArray, List.set_cons_zero, List.set_cons_succ]
        refine wpAnyH_take (i := 20) (oi := ⟨some 26, _, _, _, _, _⟩) (v := ?_) rfl (by kernel_rfl) (by kernel_rfl) (by kernel_rfl) (fun _ _ _ h => h) (Or.inl ⟨by rfl, (by intro w hSw; (try dsimp only at hSw); go_simp; try with_reducible rfl)⟩) hHeld ?_
        try simp only [Act.put, List.setIfInBounds_toArray, List.set_cons_zero, List.set_cons_succ]
        refine wpAnyH_done (by kernel_rfl) ?_ _
        clear hSum hcv hwd hHeld hS2
        go_wp2
        go_ret2
        exact ⟨rfl, hF.1⟩
end Go.Proofs.YtnacjogdndggeaaGreatDoor
end
