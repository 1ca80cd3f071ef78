/- Layer 7: the three Gets. -/
import Derived.Test.YtdiebameocbahaaOcS
import Derived.Laws.ResultCell
namespace Go.Proofs.Ytdiebameocbahaa
open Go.Shelf Go.RowKit

theorem numF_there {s : List UInt8} {n : Nat} (h1 : 1 ≤ n) (h7 : n ≤ 7) (h : n ≤ s.length) : numF s 0 n = ((num (s.take n) : Int), s.drop n, 0) := by
  unfold numF
  rw [if_neg (by simp), if_neg (by omega), if_neg (by omega), Int.toNat_natCast]
theorem numF_less {s : List UInt8} {n : Nat} (h1 : 1 ≤ n) (h7 : n ≤ 7) (h : s.length < n) : numF s 0 n = (0, s, 3) := by
  unfold numF
  rw [if_neg (by simp), if_neg (by omega), if_pos (by omega)]
theorem numF_err (s : List UInt8) (e n : Int) (h : e ≠ 0) : numF s e n = (0, s, e) := by
  unfold numF
  rw [if_pos h]

/-- Four numbers' bytes, just so many. -/
theorem get4_just (s : List UInt8) (a b c d : Nat) (ha : 1 ≤ a ∧ a ≤ 7) (hb : 1 ≤ b ∧ b ≤ 7) (hc : 1 ≤ c ∧ c ≤ 7) (hd : 1 ≤ d ∧ d ≤ 7) (h : s.length = a + b + c + d) :
    get4F s a b c d = ⟨num (s.take a), num ((s.drop a).take b), num ((s.drop (a + b)).take c), num ((s.drop (a + b + c)).take d), [], 0⟩ := by
  have e0 := numF_there ha.1 ha.2 (s := s) (by omega)
  have e1 := numF_there hb.1 hb.2 (s := s.drop a) (by rw [List.length_drop]; omega)
  have e2 := numF_there hc.1 hc.2 (s := s.drop (a + b)) (by rw [List.length_drop]; omega)
  have e3 := numF_there hd.1 hd.2 (s := s.drop (a + b + c)) (by rw [List.length_drop]; omega)
  rw [List.drop_drop] at e1 e2 e3
  unfold get4F
  simp only [e0, e1, e2, e3]
  rw [List.drop_of_length_le (l := s) (i := a + b + c + d) (by omega)]

/-- Other ones: they are none. -/
theorem get4_other (s : List UInt8) (a b c d : Nat) (ha : 1 ≤ a ∧ a ≤ 7) (hb : 1 ≤ b ∧ b ≤ 7) (hc : 1 ≤ c ∧ c ≤ 7) (hd : 1 ≤ d ∧ d ≤ 7) (h : s.length ≠ a + b + c + d) :
    endF (get4F s a b c d).s (get4F s a b c d).e ≠ 0 := by
  unfold get4F
  by_cases h0 : s.length < a
  · rw [numF_less ha.1 ha.2 h0]
    simp only
    rw [numF_err _ 3 _ (by decide)]
    simp only
    rw [numF_err _ 3 _ (by decide)]
    simp only
    rw [numF_err _ 3 _ (by decide)]
    simp [endF]
  · rw [numF_there ha.1 ha.2 (by omega)]
    simp only
    by_cases h1 : (s.drop a).length < b
    · rw [numF_less hb.1 hb.2 h1]
      simp only
      rw [numF_err _ 3 _ (by decide)]
      simp only
      rw [numF_err _ 3 _ (by decide)]
      simp [endF]
    · rw [numF_there hb.1 hb.2 (by omega), List.drop_drop]
      simp only
      by_cases h2 : (s.drop (a + b)).length < c
      · rw [numF_less hc.1 hc.2 h2]
        simp only
        rw [numF_err _ 3 _ (by decide)]
        simp [endF]
      · rw [numF_there hc.1 hc.2 (by omega), List.drop_drop]
        simp only
        by_cases h3 : (s.drop (a + b + c)).length < d
        · rw [numF_less hd.1 hd.2 h3]
          simp [endF]
        · rw [numF_there hd.1 hd.2 (by omega), List.drop_drop]
          rw [List.length_drop] at h1 h2 h3
          have : (s.drop (a + b + c + d)).length ≠ 0 := by rw [List.length_drop]; omega
          simp only [endF, ne_eq, not_true_eq_false, if_false, this]
          decide

/-- The numbers in so many bytes each; noughts, if there aren't just as many bytes. -/
def partF (s : List UInt8) (a n : Nat) : Int := if s.length = 20 then (num ((s.drop a).take n) : Int) else 0

theorem Blk.new_at (w : World) (cs : Array Value) (t : TypeId) {n : Nat} (hn : w.heap.size = n) : Blk (w.alloc (.cells cs t)) n cs t := hn ▸ Blk.new w cs t

theorem six (w : World) (z c0 c1 c2 c3 c4 : Array Value) (tz tw tp : TypeId) (W : World)
    (hW : W = (((((w.alloc (.cells z tz)).alloc (.cells c0 tw)).alloc (.cells c1 tw)).alloc (.cells c2 tw)).alloc (.cells c3 tw)).alloc (.cells c4 tp)) :
    Blk W w.heap.size z tz ∧ Blk W (w.heap.size + 1) c0 tw ∧ Blk W (w.heap.size + 1 + 1) c1 tw ∧ Blk W (w.heap.size + 1 + 1 + 1) c2 tw ∧ Blk W (w.heap.size + 1 + 1 + 1 + 1) c3 tw ∧ Blk W (w.heap.size + 1 + 1 + 1 + 1 + 1) c4 tp ∧ Below w.heap.size w W := by
  subst hW
  have e1 : (w.alloc (.cells z tz)).heap.size = w.heap.size + 1 := by simp
  have e2 : ((w.alloc (.cells z tz)).alloc (.cells c0 tw)).heap.size = w.heap.size + 1 + 1 := by simp
  have e3 : (((w.alloc (.cells z tz)).alloc (.cells c0 tw)).alloc (.cells c1 tw)).heap.size = w.heap.size + 1 + 1 + 1 := by simp
  have e4 : ((((w.alloc (.cells z tz)).alloc (.cells c0 tw)).alloc (.cells c1 tw)).alloc (.cells c2 tw)).heap.size = w.heap.size + 1 + 1 + 1 + 1 := by simp
  have e5 : (((((w.alloc (.cells z tz)).alloc (.cells c0 tw)).alloc (.cells c1 tw)).alloc (.cells c2 tw)).alloc (.cells c3 tw)).heap.size = w.heap.size + 1 + 1 + 1 + 1 + 1 := by simp
  refine ⟨(((((Blk.new _ _ _).alloc _).alloc _).alloc _).alloc _).alloc _, ((((Blk.new_at _ _ _ e1).alloc _).alloc _).alloc _).alloc _, (((Blk.new_at _ _ _ e2).alloc _).alloc _).alloc _, ((Blk.new_at _ _ _ e3).alloc _).alloc _, (Blk.new_at _ _ _ e4).alloc _, Blk.new_at _ _ _ e5, ?_⟩
  exact ((((((Below.refl w.heap.size w).alloc (Nat.le_refl _) _).alloc (by omega) _).alloc (by omega) _).alloc (by omega) _).alloc (by omega) _).alloc (by omega) _

theorem Blk.below_at {w w' : World} {b p : Nat} {cs : Array Value} {t : TypeId} (h : Blk w b cs t) (hb : Below p w w') (hp : b < p) : Blk w' b cs t := by
  unfold Blk at *
  rw [hb.block b hp]
  exact h


set_option maxRecDepth 100000 in
set_option maxHeartbeats 4000000 in
theorem getPlace_any (s : List UInt8) (w : World) :
    Calls Try.prog 33 #[.string (S s)] w fun e w' => e = .returned (.tuple #[.agg #[.int .i64 (partF s 0 6), .int .i64 (partF s 6 2), .int .i64 (partF s 8 5), .int .i64 (partF s 13 7)], .bool (decide (s.length = 20))]) ∧ Below w.heap.size w w' := by
  by_cases hl : s.length = 20
  · have HP := Lib.hid (show partF s 0 6 = (num (s.take 6) : Int) ∧ partF s 6 2 = (num ((s.drop 6).take 2) : Int) ∧ partF s 8 5 = (num ((s.drop 8).take 5) : Int) ∧ partF s 13 7 = (num ((s.drop 13).take 7) : Int) by
      unfold partF; simp [hl])
    have HG : Hid (get4F s 6 2 5 7 = ⟨num (s.take 6), num ((s.drop 6).take 2), num ((s.drop 8).take 5), num ((s.drop 13).take 7), [], 0⟩) := get4_just s 6 2 5 7 (by decide) (by decide) (by decide) (by decide) hl
    have HL := Lib.hid hl
    clear hl
    go_enter Try.func33, Try.ntmps33
    go_wp2_with (fail)
    obtain ⟨bz, b0, b1, b2, b3, b4, hbw⟩ := six w _ _ _ _ _ _ 23 80 94 _ rfl
    refine (get4_any s _ _ _ _ _ 6 2 5 7 _ ⟨b4, b0, b1, b2, b3⟩ (by omega) (by omega) (by omega) (by omega)).mono ?_
    rintro e w2 ⟨rfl, q0, q1, q2, q3, hbl⟩
    have HZ := Lib.hid (bz.below_at hbl (by omega))
    have HB := Lib.hid (hbw.trans (hbl.mono (by omega)))
    have HQ := Lib.hid (⟨q0, q1, q2, q3⟩ : _ ∧ _ ∧ _ ∧ _)
    clear bz b0 b1 b2 b3 b4 hbw hbl q0 q1 q2 q3
    have z0 := HZ.out.cell 0
    have z1 := HZ.out.cell 1
    have z2 := HZ.out.cell 2
    have z3 := HZ.out.cell 3
    have f0 := HZ.out.frozen 0
    have f1 := HZ.out.frozen 1
    have f2 := HZ.out.frozen 2
    have f3 := HZ.out.frozen 3
    rw [HG.out] at HQ
    rw [HG.out]
    simp only at HQ
    have HE := Lib.hid (show decide (endF [] 0 = 0) = true by decide)
    simp only
    rw [HE.out]
    have x0 := HQ.out.1.cell 1
    have x1 := HQ.out.2.1.cell 1
    have x2 := HQ.out.2.2.1.cell 1
    have x3 := HQ.out.2.2.2.cell 1
    go_wp2
    have hz := (((HZ.out.set 0 (.int .i64 (num (s.take 6) : Int))).set 1 (.int .i64 (num ((s.drop 6).take 2) : Int))).set 2 (.int .i64 (num ((s.drop 8).take 5) : Int))).set 3 (.int .i64 (num ((s.drop 13).take 7) : Int))
    have y0 := hz.cell 0
    have y1 := hz.cell 1
    have y2 := hz.cell 2
    have y3 := hz.cell 3
    refine bodyPost_ret (v := .tuple #[.agg #[.int .i64 (num (s.take 6) : Int), .int .i64 (num ((s.drop 6).take 2) : Int), .int .i64 (num ((s.drop 8).take 5) : Int), .int .i64 (num ((s.drop 13).take 7) : Int)], .bool true]) (by simp [results, Try.results33, go_sem, y0, y1, y2, y3]) rfl ⟨?_, ((((HB.out.setCell (p := ⟨w.heap.size, 0, none⟩) (Nat.le_refl _) _).setCell (p := ⟨w.heap.size, 1, none⟩) (Nat.le_refl _) _).setCell (p := ⟨w.heap.size, 2, none⟩) (Nat.le_refl _) _).setCell (p := ⟨w.heap.size, 3, none⟩) (Nat.le_refl _) _)⟩
    rw [HP.out.1, HP.out.2.1, HP.out.2.2.1, HP.out.2.2.2, HL.out]; rfl
  · have HP := Lib.hid (show partF s 0 6 = 0 ∧ partF s 6 2 = 0 ∧ partF s 8 5 = 0 ∧ partF s 13 7 = 0 by
      unfold partF; simp [hl])
    have HG : Hid (decide (endF (get4F s 6 2 5 7).s (get4F s 6 2 5 7).e = 0) = false) := decide_eq_false (get4_other s 6 2 5 7 (by decide) (by decide) (by decide) (by decide) hl)
    have HL := Lib.hid hl
    clear hl
    go_enter Try.func33, Try.ntmps33
    go_wp2_with (fail)
    obtain ⟨bz, b0, b1, b2, b3, b4, hbw⟩ := six w _ _ _ _ _ _ 23 80 94 _ rfl
    refine (get4_any s _ _ _ _ _ 6 2 5 7 _ ⟨b4, b0, b1, b2, b3⟩ (by omega) (by omega) (by omega) (by omega)).mono ?_
    rintro e w2 ⟨rfl, q0, q1, q2, q3, hbl⟩
    have HZ := Lib.hid (bz.below_at hbl (by omega))
    have HB := Lib.hid (hbw.trans (hbl.mono (by omega)))
    have HQ := Lib.hid (⟨q0, q1, q2, q3⟩ : _ ∧ _ ∧ _ ∧ _)
    clear bz b0 b1 b2 b3 b4 hbw hbl q0 q1 q2 q3
    have z0 := HZ.out.cell 0
    have z1 := HZ.out.cell 1
    have z2 := HZ.out.cell 2
    have z3 := HZ.out.cell 3
    have f0 := HZ.out.frozen 0
    have f1 := HZ.out.frozen 1
    have f2 := HZ.out.frozen 2
    have f3 := HZ.out.frozen 3
    rw [HG.out]
    clear HQ
    go_wp2
    have hz := (((HZ.out.set 0 (.int .i64 0)).set 1 (.int .i64 0)).set 2 (.int .i64 0)).set 3 (.int .i64 0)
    have y0 := hz.cell 0
    have y1 := hz.cell 1
    have y2 := hz.cell 2
    have y3 := hz.cell 3
    refine bodyPost_ret (v := .tuple #[.agg #[.int .i64 0, .int .i64 0, .int .i64 0, .int .i64 0], .bool false]) (by simp [results, Try.results33, go_sem, y0, y1, y2, y3]) rfl ⟨?_, ((((HB.out.setCell (p := ⟨w.heap.size, 0, none⟩) (Nat.le_refl _) _).setCell (p := ⟨w.heap.size, 1, none⟩) (Nat.le_refl _) _).setCell (p := ⟨w.heap.size, 2, none⟩) (Nat.le_refl _) _).setCell (p := ⟨w.heap.size, 3, none⟩) (Nat.le_refl _) _)⟩
    rw [HP.out.1, HP.out.2.1, HP.out.2.2.1, HP.out.2.2.2, decide_eq_false HL.out]

set_option maxRecDepth 100000 in
set_option maxHeartbeats 4000000 in
theorem getLink_any (s : List UInt8) (w : World) :
    Calls Try.prog 34 #[.string (S s)] w fun e w' => e = .returned (.tuple #[.agg #[.int .i64 (partF s 0 5), .int .i64 (partF s 5 6), .int .i64 (partF s 11 6), .int .i64 (partF s 17 3)], .bool (decide (s.length = 20))]) ∧ Below w.heap.size w w' := by
  by_cases hl : s.length = 20
  · have HP := Lib.hid (show partF s 0 5 = (num (s.take 5) : Int) ∧ partF s 5 6 = (num ((s.drop 5).take 6) : Int) ∧ partF s 11 6 = (num ((s.drop 11).take 6) : Int) ∧ partF s 17 3 = (num ((s.drop 17).take 3) : Int) by
      unfold partF; simp [hl])
    have HG : Hid (get4F s 5 6 6 3 = ⟨num (s.take 5), num ((s.drop 5).take 6), num ((s.drop 11).take 6), num ((s.drop 17).take 3), [], 0⟩) := get4_just s 5 6 6 3 (by decide) (by decide) (by decide) (by decide) hl
    have HL := Lib.hid hl
    clear hl
    go_enter Try.func34, Try.ntmps34
    go_wp2_with (fail)
    obtain ⟨bz, b0, b1, b2, b3, b4, hbw⟩ := six w _ _ _ _ _ _ 56 80 94 _ rfl
    refine (get4_any s _ _ _ _ _ 5 6 6 3 _ ⟨b4, b0, b1, b2, b3⟩ (by omega) (by omega) (by omega) (by omega)).mono ?_
    rintro e w2 ⟨rfl, q0, q1, q2, q3, hbl⟩
    have HZ := Lib.hid (bz.below_at hbl (by omega))
    have HB := Lib.hid (hbw.trans (hbl.mono (by omega)))
    have HQ := Lib.hid (⟨q0, q1, q2, q3⟩ : _ ∧ _ ∧ _ ∧ _)
    clear bz b0 b1 b2 b3 b4 hbw hbl q0 q1 q2 q3
    have z0 := HZ.out.cell 0
    have z1 := HZ.out.cell 1
    have z2 := HZ.out.cell 2
    have z3 := HZ.out.cell 3
    have f0 := HZ.out.frozen 0
    have f1 := HZ.out.frozen 1
    have f2 := HZ.out.frozen 2
    have f3 := HZ.out.frozen 3
    rw [HG.out] at HQ
    rw [HG.out]
    simp only at HQ
    have HE := Lib.hid (show decide (endF [] 0 = 0) = true by decide)
    simp only
    rw [HE.out]
    have x0 := HQ.out.1.cell 1
    have x1 := HQ.out.2.1.cell 1
    have x2 := HQ.out.2.2.1.cell 1
    have x3 := HQ.out.2.2.2.cell 1
    go_wp2
    have hz := (((HZ.out.set 0 (.int .i64 (num (s.take 5) : Int))).set 1 (.int .i64 (num ((s.drop 5).take 6) : Int))).set 2 (.int .i64 (num ((s.drop 11).take 6) : Int))).set 3 (.int .i64 (num ((s.drop 17).take 3) : Int))
    have y0 := hz.cell 0
    have y1 := hz.cell 1
    have y2 := hz.cell 2
    have y3 := hz.cell 3
    refine bodyPost_ret (v := .tuple #[.agg #[.int .i64 (num (s.take 5) : Int), .int .i64 (num ((s.drop 5).take 6) : Int), .int .i64 (num ((s.drop 11).take 6) : Int), .int .i64 (num ((s.drop 17).take 3) : Int)], .bool true]) (by simp [results, Try.results34, go_sem, y0, y1, y2, y3]) rfl ⟨?_, ((((HB.out.setCell (p := ⟨w.heap.size, 0, none⟩) (Nat.le_refl _) _).setCell (p := ⟨w.heap.size, 1, none⟩) (Nat.le_refl _) _).setCell (p := ⟨w.heap.size, 2, none⟩) (Nat.le_refl _) _).setCell (p := ⟨w.heap.size, 3, none⟩) (Nat.le_refl _) _)⟩
    rw [HP.out.1, HP.out.2.1, HP.out.2.2.1, HP.out.2.2.2, HL.out]; rfl
  · have HP := Lib.hid (show partF s 0 5 = 0 ∧ partF s 5 6 = 0 ∧ partF s 11 6 = 0 ∧ partF s 17 3 = 0 by
      unfold partF; simp [hl])
    have HG : Hid (decide (endF (get4F s 5 6 6 3).s (get4F s 5 6 6 3).e = 0) = false) := decide_eq_false (get4_other s 5 6 6 3 (by decide) (by decide) (by decide) (by decide) hl)
    have HL := Lib.hid hl
    clear hl
    go_enter Try.func34, Try.ntmps34
    go_wp2_with (fail)
    obtain ⟨bz, b0, b1, b2, b3, b4, hbw⟩ := six w _ _ _ _ _ _ 56 80 94 _ rfl
    refine (get4_any s _ _ _ _ _ 5 6 6 3 _ ⟨b4, b0, b1, b2, b3⟩ (by omega) (by omega) (by omega) (by omega)).mono ?_
    rintro e w2 ⟨rfl, q0, q1, q2, q3, hbl⟩
    have HZ := Lib.hid (bz.below_at hbl (by omega))
    have HB := Lib.hid (hbw.trans (hbl.mono (by omega)))
    have HQ := Lib.hid (⟨q0, q1, q2, q3⟩ : _ ∧ _ ∧ _ ∧ _)
    clear bz b0 b1 b2 b3 b4 hbw hbl q0 q1 q2 q3
    have z0 := HZ.out.cell 0
    have z1 := HZ.out.cell 1
    have z2 := HZ.out.cell 2
    have z3 := HZ.out.cell 3
    have f0 := HZ.out.frozen 0
    have f1 := HZ.out.frozen 1
    have f2 := HZ.out.frozen 2
    have f3 := HZ.out.frozen 3
    rw [HG.out]
    clear HQ
    go_wp2
    have hz := (((HZ.out.set 0 (.int .i64 0)).set 1 (.int .i64 0)).set 2 (.int .i64 0)).set 3 (.int .i64 0)
    have y0 := hz.cell 0
    have y1 := hz.cell 1
    have y2 := hz.cell 2
    have y3 := hz.cell 3
    refine bodyPost_ret (v := .tuple #[.agg #[.int .i64 0, .int .i64 0, .int .i64 0, .int .i64 0], .bool false]) (by simp [results, Try.results34, go_sem, y0, y1, y2, y3]) rfl ⟨?_, ((((HB.out.setCell (p := ⟨w.heap.size, 0, none⟩) (Nat.le_refl _) _).setCell (p := ⟨w.heap.size, 1, none⟩) (Nat.le_refl _) _).setCell (p := ⟨w.heap.size, 2, none⟩) (Nat.le_refl _) _).setCell (p := ⟨w.heap.size, 3, none⟩) (Nat.le_refl _) _)⟩
    rw [HP.out.1, HP.out.2.1, HP.out.2.2.1, HP.out.2.2.2, decide_eq_false HL.out]

set_option maxRecDepth 100000 in
set_option maxHeartbeats 4000000 in
theorem getMark_any (s : List UInt8) (w : World) :
    Calls Try.prog 35 #[.string (S s)] w fun e w' => e = .returned (.tuple #[.agg #[.int .i64 (partF s 0 6), .int .i64 (partF s 6 6), .int .i64 (partF s 12 6), .int .i64 (partF s 18 2)], .bool (decide (s.length = 20))]) ∧ Below w.heap.size w w' := by
  by_cases hl : s.length = 20
  · have HP := Lib.hid (show partF s 0 6 = (num (s.take 6) : Int) ∧ partF s 6 6 = (num ((s.drop 6).take 6) : Int) ∧ partF s 12 6 = (num ((s.drop 12).take 6) : Int) ∧ partF s 18 2 = (num ((s.drop 18).take 2) : Int) by
      unfold partF; simp [hl])
    have HG : Hid (get4F s 6 6 6 2 = ⟨num (s.take 6), num ((s.drop 6).take 6), num ((s.drop 12).take 6), num ((s.drop 18).take 2), [], 0⟩) := get4_just s 6 6 6 2 (by decide) (by decide) (by decide) (by decide) hl
    have HL := Lib.hid hl
    clear hl
    go_enter Try.func35, Try.ntmps35
    go_wp2_with (fail)
    obtain ⟨bz, b0, b1, b2, b3, b4, hbw⟩ := six w _ _ _ _ _ _ 26 80 94 _ rfl
    refine (get4_any s _ _ _ _ _ 6 6 6 2 _ ⟨b4, b0, b1, b2, b3⟩ (by omega) (by omega) (by omega) (by omega)).mono ?_
    rintro e w2 ⟨rfl, q0, q1, q2, q3, hbl⟩
    have HZ := Lib.hid (bz.below_at hbl (by omega))
    have HB := Lib.hid (hbw.trans (hbl.mono (by omega)))
    have HQ := Lib.hid (⟨q0, q1, q2, q3⟩ : _ ∧ _ ∧ _ ∧ _)
    clear bz b0 b1 b2 b3 b4 hbw hbl q0 q1 q2 q3
    have z0 := HZ.out.cell 0
    have z1 := HZ.out.cell 1
    have z2 := HZ.out.cell 2
    have z3 := HZ.out.cell 3
    have f0 := HZ.out.frozen 0
    have f1 := HZ.out.frozen 1
    have f2 := HZ.out.frozen 2
    have f3 := HZ.out.frozen 3
    rw [HG.out] at HQ
    rw [HG.out]
    simp only at HQ
    have HE := Lib.hid (show decide (endF [] 0 = 0) = true by decide)
    simp only
    rw [HE.out]
    have x0 := HQ.out.1.cell 1
    have x1 := HQ.out.2.1.cell 1
    have x2 := HQ.out.2.2.1.cell 1
    have x3 := HQ.out.2.2.2.cell 1
    go_wp2
    have hz := (((HZ.out.set 0 (.int .i64 (num (s.take 6) : Int))).set 1 (.int .i64 (num ((s.drop 6).take 6) : Int))).set 2 (.int .i64 (num ((s.drop 12).take 6) : Int))).set 3 (.int .i64 (num ((s.drop 18).take 2) : Int))
    have y0 := hz.cell 0
    have y1 := hz.cell 1
    have y2 := hz.cell 2
    have y3 := hz.cell 3
    refine bodyPost_ret (v := .tuple #[.agg #[.int .i64 (num (s.take 6) : Int), .int .i64 (num ((s.drop 6).take 6) : Int), .int .i64 (num ((s.drop 12).take 6) : Int), .int .i64 (num ((s.drop 18).take 2) : Int)], .bool true]) (by simp [results, Try.results35, go_sem, y0, y1, y2, y3]) rfl ⟨?_, ((((HB.out.setCell (p := ⟨w.heap.size, 0, none⟩) (Nat.le_refl _) _).setCell (p := ⟨w.heap.size, 1, none⟩) (Nat.le_refl _) _).setCell (p := ⟨w.heap.size, 2, none⟩) (Nat.le_refl _) _).setCell (p := ⟨w.heap.size, 3, none⟩) (Nat.le_refl _) _)⟩
    rw [HP.out.1, HP.out.2.1, HP.out.2.2.1, HP.out.2.2.2, HL.out]; rfl
  · have HP := Lib.hid (show partF s 0 6 = 0 ∧ partF s 6 6 = 0 ∧ partF s 12 6 = 0 ∧ partF s 18 2 = 0 by
      unfold partF; simp [hl])
    have HG : Hid (decide (endF (get4F s 6 6 6 2).s (get4F s 6 6 6 2).e = 0) = false) := decide_eq_false (get4_other s 6 6 6 2 (by decide) (by decide) (by decide) (by decide) hl)
    have HL := Lib.hid hl
    clear hl
    go_enter Try.func35, Try.ntmps35
    go_wp2_with (fail)
    obtain ⟨bz, b0, b1, b2, b3, b4, hbw⟩ := six w _ _ _ _ _ _ 26 80 94 _ rfl
    refine (get4_any s _ _ _ _ _ 6 6 6 2 _ ⟨b4, b0, b1, b2, b3⟩ (by omega) (by omega) (by omega) (by omega)).mono ?_
    rintro e w2 ⟨rfl, q0, q1, q2, q3, hbl⟩
    have HZ := Lib.hid (bz.below_at hbl (by omega))
    have HB := Lib.hid (hbw.trans (hbl.mono (by omega)))
    have HQ := Lib.hid (⟨q0, q1, q2, q3⟩ : _ ∧ _ ∧ _ ∧ _)
    clear bz b0 b1 b2 b3 b4 hbw hbl q0 q1 q2 q3
    have z0 := HZ.out.cell 0
    have z1 := HZ.out.cell 1
    have z2 := HZ.out.cell 2
    have z3 := HZ.out.cell 3
    have f0 := HZ.out.frozen 0
    have f1 := HZ.out.frozen 1
    have f2 := HZ.out.frozen 2
    have f3 := HZ.out.frozen 3
    rw [HG.out]
    clear HQ
    go_wp2
    have hz := (((HZ.out.set 0 (.int .i64 0)).set 1 (.int .i64 0)).set 2 (.int .i64 0)).set 3 (.int .i64 0)
    have y0 := hz.cell 0
    have y1 := hz.cell 1
    have y2 := hz.cell 2
    have y3 := hz.cell 3
    refine bodyPost_ret (v := .tuple #[.agg #[.int .i64 0, .int .i64 0, .int .i64 0, .int .i64 0], .bool false]) (by simp [results, Try.results35, go_sem, y0, y1, y2, y3]) rfl ⟨?_, ((((HB.out.setCell (p := ⟨w.heap.size, 0, none⟩) (Nat.le_refl _) _).setCell (p := ⟨w.heap.size, 1, none⟩) (Nat.le_refl _) _).setCell (p := ⟨w.heap.size, 2, none⟩) (Nat.le_refl _) _).setCell (p := ⟨w.heap.size, 3, none⟩) (Nat.le_refl _) _)⟩
    rw [HP.out.1, HP.out.2.1, HP.out.2.2.1, HP.out.2.2.2, decide_eq_false HL.out]

end Go.Proofs.Ytdiebameocbahaa
