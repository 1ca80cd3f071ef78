/- reveillelaw01.OctetTakes: the walk. -/
import Derived.Test.YtdiebameocbahaaLwON
namespace Go.Proofs.Ytdiebameocbahaa
open Go.Shelf Go.RowKit

theorem takeF_cases (s : List UInt8) (n : Int) : (n < 0 → takeF s 0 n = ([], s, 1)) ∧ (¬ n < 0 → (s.length : Int) < n → takeF s 0 n = ([], s, 3)) ∧ (¬ n < 0 → ¬ (s.length : Int) < n → takeF s 0 n = (s.take n.toNat, s.drop n.toNat, 0)) := by
  refine ⟨fun h => ?_, fun h h' => ?_, fun h h' => ?_⟩
  · unfold takeF; rw [if_neg (by simp), if_pos h]
  · unfold takeF; rw [if_neg (by simp), if_neg h, if_pos h']
  · unfold takeF; rw [if_neg (by simp), if_neg h, if_neg h']

set_option maxRecDepth 100000 in
set_option maxHeartbeats 2000000 in
theorem takes_law (s : List UInt8) (n : Int) (w : World) :
    Calls Try.prog 6 #[.string (S s), .int .i64 n] w fun e w' => e = .returned (.bool true) ∧ Below w.heap.size w w' := by
  by_cases h300 : (300 : Int) < (s.length : Int)
  · have q : decide ((300 : Int) < (s.length : Int)) = true := decide_eq_true h300
    go_enter Try.func6, Try.ntmps6
    go_wp2_with (fail)
    refine (awake1 _).mono ?_
    rintro e w1 ⟨rfl, hb1⟩
    go_wp2
    go_ret
    exact ⟨rfl, hb1⟩
  · have q : decide ((300 : Int) < (s.length : Int)) = false := decide_eq_false h300
    obtain ⟨t1, t2, t3⟩ := takeF_cases s n
    by_cases hn : n < 0
    · have Ht := Lib.hid (t1 hn)
      clear t1 t2 t3
      go_enter Try.func6, Try.ntmps6
      go_wp2_with (fail)
      refine (awake1 _).mono ?_
      rintro e w1 ⟨rfl, hb1⟩
      go_wp2_with (fail)
      refine (New_any s _).mono ?_
      rintro e w2 ⟨rfl, hr2, hb2⟩
      have HB2 := Lib.hid (hb1.trans (hb2.mono hb1.size))
      have HR2 := Lib.hid hr2
      have hgB : w.heap.size ≤ w1.heap.size := hb1.size
      generalize w1.heap.size = g at *
      clear hr2 hb2 hb1
      go_wp2_with (fail)
      refine (Take_any g s 0 n _ HR2.out).mono ?_
      rintro e w3 ⟨rfl, hr3, ho3⟩
      rw [Ht.out] at hr3
      rw [Ht.out]
      have HB3 := Lib.hid (below_only HB2.out ho3 hgB HB2.out.size)
      have HR3 := Lib.hid hr3
      clear hr3 ho3
      go_wp2_with (fail)
      refine (RNum_nil 1 _).mono ?_
      rintro e w' ⟨rfl, rfl⟩
      go_wp2_with (fail)
      refine (RText_nil 9 _).mono ?_
      rintro e w' ⟨rfl, rfl⟩
      go_wp2_with (fail)
      refine (RList_nil 9 9 _).mono ?_
      rintro e w' ⟨rfl, rfl⟩
      go_wp2_with (fail)
      refine (Take_nil 0 _).mono ?_
      rintro e w' ⟨rfl, rfl⟩
      go_wp2_with (fail)
      refine (Left_nil _).mono ?_
      rintro e w' ⟨rfl, rfl⟩
      go_wp2_with (fail)
      refine (Err_nil _).mono ?_
      rintro e w' ⟨rfl, rfl⟩
      go_wp2_with (fail)
      refine (End_nil _).mono ?_
      rintro e w' ⟨rfl, rfl⟩
      go_wp2_with (fail)
      refine (Err_any g s 1 _ HR3.out).mono ?_
      rintro e w' ⟨rfl, rfl⟩
      go_wp2
      go_ret
      exact ⟨rfl, HB3.out⟩
    · by_cases hl : (s.length : Int) < n
      · have Ht := Lib.hid (t2 hn hl)
        clear t1 t2 t3
        go_enter Try.func6, Try.ntmps6
        go_wp2_with (fail)
        refine (awake1 _).mono ?_
        rintro e w1 ⟨rfl, hb1⟩
        go_wp2_with (fail)
        refine (New_any s _).mono ?_
        rintro e w2 ⟨rfl, hr2, hb2⟩
        have HB2 := Lib.hid (hb1.trans (hb2.mono hb1.size))
        have HR2 := Lib.hid hr2
        have hgB : w.heap.size ≤ w1.heap.size := hb1.size
        generalize w1.heap.size = g at *
        clear hr2 hb2 hb1
        go_wp2_with (fail)
        refine (Take_any g s 0 n _ HR2.out).mono ?_
        rintro e w3 ⟨rfl, hr3, ho3⟩
        rw [Ht.out] at hr3
        rw [Ht.out]
        have HB3 := Lib.hid (below_only HB2.out ho3 hgB HB2.out.size)
        have HR3 := Lib.hid hr3
        clear hr3 ho3
        go_wp2_with (fail)
        refine (RNum_nil 1 _).mono ?_
        rintro e w' ⟨rfl, rfl⟩
        go_wp2_with (fail)
        refine (RText_nil 9 _).mono ?_
        rintro e w' ⟨rfl, rfl⟩
        go_wp2_with (fail)
        refine (RList_nil 9 9 _).mono ?_
        rintro e w' ⟨rfl, rfl⟩
        go_wp2_with (fail)
        refine (Take_nil 0 _).mono ?_
        rintro e w' ⟨rfl, rfl⟩
        go_wp2_with (fail)
        refine (Left_nil _).mono ?_
        rintro e w' ⟨rfl, rfl⟩
        go_wp2_with (fail)
        refine (Err_nil _).mono ?_
        rintro e w' ⟨rfl, rfl⟩
        go_wp2_with (fail)
        refine (End_nil _).mono ?_
        rintro e w' ⟨rfl, rfl⟩
        go_wp2_with (fail)
        refine (Err_any g s 3 _ HR3.out).mono ?_
        rintro e w' ⟨rfl, rfl⟩
        go_wp2_with (fail)
        refine (Left_any g s 3 _ HR3.out).mono ?_
        rintro e w' ⟨rfl, rfl⟩
        go_wp2
        go_ret
        exact ⟨rfl, HB3.out⟩

      · have Ht := Lib.hid (t3 hn hl)
        clear t1 t2 t3
        go_enter Try.func6, Try.ntmps6
        go_wp2_with (fail)
        refine (awake1 _).mono ?_
        rintro e w1 ⟨rfl, hb1⟩
        go_wp2_with (fail)
        refine (New_any s _).mono ?_
        rintro e w2 ⟨rfl, hr2, hb2⟩
        have HB2 := Lib.hid (hb1.trans (hb2.mono hb1.size))
        have HR2 := Lib.hid hr2
        have hgB : w.heap.size ≤ w1.heap.size := hb1.size
        generalize w1.heap.size = g at *
        clear hr2 hb2 hb1
        go_wp2_with (fail)
        refine (Take_any g s 0 n _ HR2.out).mono ?_
        rintro e w3 ⟨rfl, hr3, ho3⟩
        rw [Ht.out] at hr3
        rw [Ht.out]
        have HB3 := Lib.hid (below_only HB2.out ho3 hgB HB2.out.size)
        have HR3 := Lib.hid hr3
        clear hr3 ho3
        go_wp2_with (fail)
        refine (RNum_nil 1 _).mono ?_
        rintro e w' ⟨rfl, rfl⟩
        go_wp2_with (fail)
        refine (RText_nil 9 _).mono ?_
        rintro e w' ⟨rfl, rfl⟩
        go_wp2_with (fail)
        refine (RList_nil 9 9 _).mono ?_
        rintro e w' ⟨rfl, rfl⟩
        go_wp2_with (fail)
        refine (Take_nil 0 _).mono ?_
        rintro e w' ⟨rfl, rfl⟩
        go_wp2_with (fail)
        refine (Left_nil _).mono ?_
        rintro e w' ⟨rfl, rfl⟩
        go_wp2_with (fail)
        refine (Err_nil _).mono ?_
        rintro e w' ⟨rfl, rfl⟩
        go_wp2_with (fail)
        refine (End_nil _).mono ?_
        rintro e w' ⟨rfl, rfl⟩
        go_wp2_with (fail)
        refine (Left_any g (s.drop n.toNat) 0 _ HR3.out).mono ?_
        rintro e w' ⟨rfl, rfl⟩
        go_wp2_with (fail)
        refine (Err_any g (s.drop n.toNat) 0 _ HR3.out).mono ?_
        rintro e w' ⟨rfl, rfl⟩
        go_wp2
        go_ret
        exact ⟨rfl, HB3.out⟩

end Go.Proofs.Ytdiebameocbahaa
