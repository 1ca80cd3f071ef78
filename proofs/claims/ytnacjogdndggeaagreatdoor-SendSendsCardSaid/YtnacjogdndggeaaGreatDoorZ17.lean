/- Layer 6 (rec): what a message carries; what is right; a record's bytes. Layer 2 (crc): Open. -/
import Derived.Test.YtnacjogdndggeaaGreatDoorZ16
import Derived.Test.YtnacjogdndggeaaGreatDoorZ09
import Derived.RegionTactic
section
namespace Go.Proofs.YtnacjogdndggeaaGreatDoor
open Go.Shelf Go.RowKit Go.Lib
set_option maxRecDepth 100000
set_option maxHeartbeats 1000000

theorem carries_good (m : Rec) (A : Option Addr) (c : Nat) (w : World) (hr : RSa w A m.keys) (h : carriesF m = true) :
    Calls Tryz.prog 196 #[.agg (recV m A c)] w fun e w' => e = .returned (.bool true) ∧ Below w.heap.size w w' := by
  obtain ⟨q1, q2, q3, q4, q5, q6, q7, q8, q9⟩ := carries_within h
  unfold carriesF at h
  simp only [Bool.and_eq_true, decide_eq_true_iff] at h
  obtain ⟨⟨⟨⟨⟨⟨⟨⟨⟨h1, h2⟩, h3⟩, h4⟩, h5⟩, h6⟩, h7⟩, h8⟩, h9⟩, h10⟩ := h
  obtain ⟨kind, queue, due, retry, ref, born, topic, tag, body, keys⟩ := m
  simp only [recV] at *
  have hTo := Topic_any topic
  have hTa := Tag_any tag
  rw [h1] at hTo
  rw [show (decide (tag = []) || plainF tag) = true from h6] at hTa
  have hKe := fun (w : World) (hr : RSa w A keys) => AllKey_any A c keys w hr (by omega)
  rw [h8] at hKe
  have hUn := fun (w : World) (hr : RSa w A keys) => unlike_rec A c keys w hr (by omega)
  rw [decide_eq_true h9] at hUn
  have hB := (Below.refl w.heap.size w).alloc (Nat.le_refl _) (.cells #[.int .i64 kind, .int .i64 queue, .int .i64 due, .int .i64 retry, .int .i64 ref, .int .i64 born, .string (S topic), .string (S tag), .string (S body), .slice A keys.length c] 56)
  have hbn := Blk.new w #[.int .i64 kind, .int .i64 queue, .int .i64 due, .int .i64 retry, .int .i64 ref, .int .i64 born, .string (S topic), .string (S tag), .string (S body), .slice A keys.length c] 56
  have HR := Lib.hid (hr.below hB)
  have HB := Lib.hid hB
  have j4 : ¬ (3 : Int) ≤ queue := by omega
  have j5 : ¬ queue < 0 := by omega
  have k1 : (keys.length : Int) ≤ 3 := by omega
  have k2 : (body.length : Int) ≤ 200 := by omega
  clear hr hB h1 h6 h8 h9 q5 q6 q9
  go_enter Tryz.func196, Tryz.ntmps196
  go_upto_region 1 with (fail)
  generalize w.alloc (.cells #[.int .i64 kind, .int .i64 queue, .int .i64 due, .int .i64 retry, .int .i64 ref, .int .i64 born, .string (S topic), .string (S tag), .string (S body), .slice A keys.length c] 56) = w1 at *
  have e6 := hbn.cell 6
  have HN := Lib.hid hbn
  clear hbn
  go_wp2_with (fail)
  refine (hTo w1).mono ?_
  rintro e w2 ⟨rfl, hb⟩
  have HR2 := Lib.hid (HR.out.below hb)
  have HN2 := Lib.hid (HN.out.below hb)
  have HB2 := Lib.hid (HB.out.trans (hb.mono HB.out.size))
  clear hb e6 HR HN HB hTo
  have e1 := HN2.out.cell 1
  have e3 := HN2.out.cell 3
  have e7 := HN2.out.cell 7
  go_wp2_with (fail)
  refine (hTa w2).mono ?_
  rintro e w3 ⟨rfl, hb⟩
  have HR3 := Lib.hid (HR2.out.below hb)
  have HN3 := Lib.hid (HN2.out.below hb)
  have HB3 := Lib.hid (HB2.out.trans (hb.mono HB2.out.size))
  clear hb e1 e3 e7 HR2 HN2 HB2 hTa
  have e9 := HN3.out.cell 9
  go_wp2_with (fail)
  refine (hKe w3 HR3.out).mono ?_
  rintro e w' ⟨rfl, rfl⟩
  clear hKe
  go_wp2_with (fail)
  refine (hUn w3 HR3.out).mono ?_
  rintro e w4 ⟨rfl, hb⟩
  have HN4 := Lib.hid (HN3.out.below hb)
  have HB4 := Lib.hid (HB3.out.trans (hb.mono HB3.out.size))
  have e8 := HN4.out.cell 8
  clear hb e9 hUn HR3 HN3 HB3
  go_wp2
  go_ret
  exact ⟨rfl, HB4.out⟩

/-- A right record of a message or of a scheduled one. -/
theorem right_cases {m : Rec} (h : rightF m = true) (hk : m.kind = 1 ∨ m.kind = 2) : (badNum m.due || badNum m.ref || badNum m.born) = false ∧ carriesF m = true ∧ (m.kind = 1 → m.due = 0 ∧ m.ref = 0) := by
  unfold rightF at h
  rw [Bool.and_eq_true, Bool.not_eq_true'] at h
  obtain ⟨h1, h2⟩ := h
  refine ⟨h1, ?_⟩
  rcases hk with hk | hk
  · rw [if_pos hk] at h2
    simp only [Bool.and_eq_true, decide_eq_true_iff] at h2
    exact ⟨h2.1.1, fun _ => ⟨h2.1.2, h2.2⟩⟩
  · rw [if_neg (by omega), if_pos (.inl hk)] at h2
    exact ⟨h2, fun h => by omega⟩

theorem Right_good (m : Rec) (A : Option Addr) (c : Nat) (w : World) (hr : RSa w A m.keys) (h : rightF m = true) (hk : m.kind = 1 ∨ m.kind = 2) :
    Calls Tryz.prog 134 #[.agg (recV m A c)] w fun e w' => e = .returned (.bool true) ∧ Below w.heap.size w w' := by
  obtain ⟨h1, h2, h3⟩ := right_cases h hk
  have hCa := fun (w : World) (hr : RSa w A m.keys) => carries_good m A c w hr h2
  have hB := (Below.refl w.heap.size w).alloc (Nat.le_refl _) (.cells (recV m A c) 56)
  have hbn := Blk.new w (recV m A c) 56
  have HR := Lib.hid (hr.below hB)
  have HB := Lib.hid hB
  clear hr hB h h2
  obtain ⟨kind, queue, due, retry, ref, born, topic, tag, body, keys⟩ := m
  simp only [recV] at *
  go_enter Tryz.func134, Tryz.ntmps134
  go_upto_region 1 with (fail)
  generalize w.alloc (.cells #[.int .i64 kind, .int .i64 queue, .int .i64 due, .int .i64 retry, .int .i64 ref, .int .i64 born, .string (S topic), .string (S tag), .string (S body), .slice A keys.length c] 56) = w1 at *
  have e2 := hbn.cell 2
  have e4 := hbn.cell 4
  have e5 := hbn.cell 5
  have hNu := nums_any w1.heap.size due ref born (w1.alloc (.cells #[.int .i64 due, .int .i64 ref, .int .i64 born] 3)) (Blk.new w1 _ _)
  rw [h1, Bool.not_false] at hNu
  have HN := Lib.hid hbn
  clear hbn
  go_wp2_with (fail)
  refine hNu.mono ?_
  rintro e w2 ⟨rfl, nd, rfl⟩
  have hB2a := (Below.refl w1.heap.size w1).alloc (Nat.le_refl _) (.cells #[.int .i64 due, .int .i64 ref, .int .i64 born] 3)
  have hB2 := hB2a.trans ((below_drewN (w1.alloc (.cells #[.int .i64 due, .int .i64 ref, .int .i64 born] 3)) nd).mono hB2a.size)
  have HR2 := Lib.hid (HR.out.below hB2)
  have hbn := HN.out.below hB2
  have HB2 := Lib.hid (HB.out.trans (hB2.mono HB.out.size))
  clear hB2 hB2a hNu e2 e4 e5 HR HB HN
  generalize (w1.alloc (.cells #[.int .i64 due, .int .i64 ref, .int .i64 born] 3)).drewN nd = w2 at *
  have HN2 := Lib.hid hbn
  have e0 := hbn.cell 0
  have e1 := hbn.cell 1
  have e2 := hbn.cell 2
  have e3 := hbn.cell 3
  have e4 := hbn.cell 4
  have e5 := hbn.cell 5
  have e6 := hbn.cell 6
  have e7 := hbn.cell 7
  have e8 := hbn.cell 8
  have e9 := hbn.cell 9
  clear hbn
  rcases hk with hk | hk
  · obtain ⟨d1, d2⟩ := h3 hk
    subst hk d1 d2
    go_wp2_with (fail)
    refine (hCa w2 HR2.out).mono ?_
    rintro e w3 ⟨rfl, hb⟩
    have HN3 := Lib.hid (HN2.out.below hb)
    have HB3 := Lib.hid (HB2.out.trans (hb.mono HB2.out.size))
    clear hb e0 e1 e2 e3 e4 e5 e6 e7 e8 e9 hCa
    have e2 := HN3.out.cell 2
    have e4 := HN3.out.cell 4
    go_wp2
    go_ret
    exact ⟨rfl, HB3.out⟩
  · subst hk
    go_wp2_with (fail)
    refine (hCa w2 HR2.out).mono ?_
    rintro e w3 ⟨rfl, hb⟩
    have HB3 := Lib.hid (HB2.out.trans (hb.mono HB2.out.size))
    clear hb e0 e1 e2 e3 e4 e5 e6 e7 e8 e9 hCa
    go_wp2
    go_ret
    exact ⟨rfl, HB3.out⟩

theorem Put_good (g : Nat) (m : Rec) (A : Option Addr) (c : Nat) (w : World) (hT : IsTab g w) (hr : RSa w A m.keys) (h : rightF m = true) (hk : m.kind = 1 ∨ m.kind = 2) :
    Calls Tryz.prog 202 #[.pointer (some ⟨g, 0, none⟩), .agg (recV m A c)] w fun e w' => e = .returned (.tuple #[.string (S (putF m)), .int .i64 0]) ∧ Below w.heap.size w w' := by
  have h0 : m.kind ≠ 0 := by omega
  have W := right_within h h0
  have hin := inside_le W
  have hRi := fun (w : World) (hr : RSa w A m.keys) => Right_good m A c w hr h hk
  have hIn := fun (w : World) (hr : RSa w A m.keys) => inside_any m A c w hr (by
      have := W.kind; have := W.queue; have := W.retry
      simp [fits]; omega) (by
      have := W.born; have := W.due; have := W.ref
      simp [fits]; omega) (by have := W.topic; omega) (by have := W.tag; omega) (by have := W.body; omega) (by have := W.many; omega) (fun s hs => by have := W.keys s hs; omega)
  have hsl := sealF_len (insideF m)
  have HP := Lib.hid (show putF m = 165 :: be 2 (3 + (sealF (insideF m)).length) ++ sealF (insideF m) by unfold putF; rw [if_neg h0])
  have hSe := fun (w : World) (hT : IsTab g w) => Seal_any g (insideF m) w hT (by omega)
  have hB := (Below.refl w.heap.size w).alloc (Nat.le_refl _) (.cells (recV m A c) 56)
  have hbn := Blk.new w (recV m A c) 56
  have HR := Lib.hid (hr.below hB)
  have HT := Lib.hid (Blk.below hT hB)
  have HB := Lib.hid hB
  have hn2 := num2 (3 + (sealF (insideF m)).length) (by omega)
  have hbl : (be 2 (3 + (sealF (insideF m)).length)).length = 2 := be_length 2 _
  generalize sealF (insideF m) = q at *
  clear hr hB h W hT
  obtain ⟨kind, queue, due, retry, ref, born, topic, tag, body, keys⟩ := m
  simp only [recV] at *
  go_enter Tryz.func202, Tryz.ntmps202
  go_upto_region 1 with (fail)
  generalize w.alloc (.cells #[.int .i64 kind, .int .i64 queue, .int .i64 due, .int .i64 retry, .int .i64 ref, .int .i64 born, .string (S topic), .string (S tag), .string (S body), .slice A keys.length c] 56) = w1 at *
  have HN := Lib.hid hbn
  have e0 := hbn.cell 0
  have e1 := hbn.cell 1
  have e2 := hbn.cell 2
  have e3 := hbn.cell 3
  have e4 := hbn.cell 4
  have e5 := hbn.cell 5
  have e6 := hbn.cell 6
  have e7 := hbn.cell 7
  have e8 := hbn.cell 8
  have e9 := hbn.cell 9
  clear hbn
  go_wp2_with (fail)
  refine (hRi w1 HR.out).mono ?_
  rintro e w2 ⟨rfl, hb⟩
  have HR2 := Lib.hid (HR.out.below hb)
  have HT2 := Lib.hid (Blk.below HT.out hb)
  have HN2 := Lib.hid (HN.out.below hb)
  have HB2 := Lib.hid (HB.out.trans (hb.mono HB.out.size))
  clear hb e0 e1 e2 e3 e4 e5 e6 e7 e8 e9 hRi HR HT HN HB
  have e0 := HN2.out.cell 0
  have e1 := HN2.out.cell 1
  have e2 := HN2.out.cell 2
  have e3 := HN2.out.cell 3
  have e4 := HN2.out.cell 4
  have e5 := HN2.out.cell 5
  have e6 := HN2.out.cell 6
  have e7 := HN2.out.cell 7
  have e8 := HN2.out.cell 8
  have e9 := HN2.out.cell 9
  go_wp2_with (fail)
  refine (hIn w2 HR2.out).mono ?_
  rintro e w3 ⟨rfl, hb⟩
  have HT3 := Lib.hid (Blk.below HT2.out hb)
  have HB3 := Lib.hid (HB2.out.trans (hb.mono HB2.out.size))
  clear hb e0 e1 e2 e3 e4 e5 e6 e7 e8 e9 hIn HR2 HT2 HN2 HB2
  go_wp2_with (fail)
  refine (hSe w3 HT3.out).mono ?_
  rintro e w4 ⟨rfl, hb⟩
  have HB4 := Lib.hid (HB3.out.trans (hb.mono HB3.out.size))
  clear hb hSe HT3 HB3
  have hql : q.length ≤ 1000 := by omega
  rw [show ((3 + q.length : Nat) : Int) = 3 + (q.length : Int) by omega] at hn2
  have hNm := Num_any 2 (.slice (some ⟨w4.heap.size, 0, none⟩) 1 1) [3 + (q.length : Int)] (w4.alloc (.cells #[.int .i64 (3 + (q.length : Int))] 3)) (ri_one w4 _) (by simp)
  rw [hn2.1, hn2.2] at hNm
  have HB5 := Lib.hid (HB4.out.alloc HB4.out.size (.cells #[.int .i64 (3 + (q.length : Int))] 3))
  have hwr : wrap64 (3 + (q.length : Int)) = 3 + (q.length : Int) := IntWalk.wrap64_in _ (by omega)
  have hwr2 : IntKind.i64.wrap (3 + (q.length : Int)) = 3 + (q.length : Int) := IntWalk.i64_in _ (by omega)
  clear hn2 hsl hin
  go_wp2_with (fail)
  refine hNm.mono ?_
  rintro e w6 ⟨rfl, hb⟩
  have HB6 := Lib.hid (HB5.out.trans (hb.mono HB5.out.size))
  clear hb hNm HB5 HB4 hwr hwr2
  generalize be 2 (3 + q.length) = y at *
  have z1 : (S y).size ≤ 2 := by simp [hbl]
  have z2 : (S q).size ≤ 1000 := by simpa using hql
  have z3 : y.length ≤ 2 := by omega
  go_wp2
  go_ret2
  refine ⟨?_, HB6.out⟩
  rw [HP.out]
  have : (⟨#[165]⟩ : ByteArray) ++ S y ++ S q = S (165 :: y ++ q) := by
    show S [165] ++ S y ++ S q = _
    rw [S_app, S_app]
    rfl
  rw [← this]
  rfl

end Go.Proofs.YtnacjogdndggeaaGreatDoor
end

section
namespace Go.Proofs.YtnacjogdndggeaaGreatDoor
open Go.Shelf Go.RowKit

set_option maxRecDepth 100000 in
set_option maxHeartbeats 1000000 in
theorem Open_short (g : Nat) (l : List UInt8) (w : World) (hl : l.length < 4) :
    Calls Tryz.prog 74 #[.pointer (some ⟨g, 0, none⟩), .string (S l)] w fun e w' => e = .returned (.tuple #[.string (S []), .bool false]) ∧ ∃ n, w' = w.drewN n := by
  have hb : decide ((l.length : Int) < 4) = true := decide_eq_true (by omega)
  go_enter Tryz.func74, Tryz.ntmps74
  go_upto_region 1 with (fail)
  go_quiet (fail)
  all_goals
    go_wp2
    go_ret2
    exact ⟨rfl, _, rfl⟩

end Go.Proofs.YtnacjogdndggeaaGreatDoor
end
