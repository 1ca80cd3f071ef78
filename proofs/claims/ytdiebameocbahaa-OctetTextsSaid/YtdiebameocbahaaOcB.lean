/- The small functions of octet and of the document's answer: what each comes to. -/
import Derived.Test.YtdiebameocbahaaOcM
import Derived.Test.YtdiebameocbahaaOcA
import Derived.BigQuiet
import Derived.Deep.QuietTactic
import Derived.Laws.BytesArg
import Derived.Laws.MakeOwn
import Derived.Laws.OwnMore
import Derived.Deep.AppendLies
import Derived.Outline
import Derived.Deep.DeepFit
import Derived.Deep.RegionWith
import Derived.IntWalk
namespace Go.Proofs.Ytdiebameocbahaa
open Go.Shelf Go.RowKit

theorem info5 : (Try.prog.info? 5).map (fun i => (i.zero, i.size, i.bytes)) = some (some (.int .u8 0), 1, 1) := by kernel_rfl

/-- Bytes that the call owns, as a string. -/
theorem own_str {w : World} {base n : Nat} {v : Value} {l : List UInt8} (h : w.ownsRow base 5 1 v n (Lib.byteCells l)) :
    (convert 67 9 v).run Try.prog w = .ok (.string (S l)) w := by
  rcases h.2 with ⟨rfl, rfl⟩ | ⟨g, cap, cur, rfl, _⟩
  · obtain rfl : l = [] := List.eq_nil_of_length_eq_zero (by have := h.1; simpa [Lib.byteCells_length] using this)
    exact run_convert_bytes_nil w 67 5 Try.underlying67 Try.underlying5 0 0 9 Try.underlying9
  · have hl : l.length = n := by have := h.1; simpa [Lib.byteCells_length] using this
    have := run_convert_bytes_arg w 67 5 Try.underlying67 Try.underlying5 g 0 n cap (l.map fun b => ((b.toNat : Nat) : Int)) (by simpa using hl) (fun i hi => ?_) 9 Try.underlying9
    · rw [this]
      have hS : strOfNums (l.map fun b => ((b.toNat : Nat) : Int)) = S l := by
        have : ((fun n : Int => UInt8.ofNat n.toNat) ∘ fun b : UInt8 => ((b.toNat : Nat) : Int)) = id := by funext b; simp
        simp only [strOfNums, S, List.map_map, this, List.map_id]
      rw [hS]
    · have hc := h.cells (g := g) rfl i (.int .u8 (((l.getD i 0).toNat : Nat) : Int)) (by simp [Lib.byteCells, List.getElem?_eq_getElem (show i < l.length by omega), List.getD_eq_getElem?_getD])
      have ha : (⟨g, 0, none⟩ : Addr).add i = ⟨g, 0 + i, none⟩ := by unfold Addr.add; split <;> simp_all
      rw [ha] at hc
      rw [hc]
      simp [List.getElem?_eq_getElem (show i < l.length by omega), List.getD_eq_getElem?_getD]

theorem conv1 (w : World) (y : Int) :
    (convert 67 9 (.slice (some ⟨w.heap.size, 0, none⟩) 1 1)).run Try.prog (w.alloc (.cells #[.int .u8 y] 5)) = .ok (.string (S [UInt8.ofNat y.toNat])) (w.alloc (.cells #[.int .u8 y] 5)) := by
  have := run_convert_bytes_arg (w.alloc (.cells #[.int .u8 y] 5)) 67 5 Try.underlying67 Try.underlying5 w.heap.size 0 1 1 [y] rfl (fun i hi => by
    obtain rfl : i = 0 := by omega
    exact cell_one_new w (.int .u8 y) 5 0 _ rfl) 9 Try.underlying9
  rw [this]
  rfl

theorem or_byte (a b : Nat) (ha : a < 256 ^ 6) (hb : b < 256) : bits BinOp.or IntKind.i64 ((a : Int) * 256) (wrap64 (b : Int)) = ((256 * a + b : Nat) : Int) := by
  rw [IntWalk.wrap64_in _ (by omega), bits_join .i64 63 (by decide) (fun n h0 h1 => by rw [IntKind.wrap_i64]; omega) 8 _ _ (by omega) (by omega) (by omega) (by omega) (by omega) (by omega)]
  omega

theorem byteCells_cast (X k : Nat) : Value.int IntKind.u8 ((X : Int) / 256 ^ k % 256) = .int .u8 ((UInt8.ofNat (X / 256 ^ k)).toNat : Nat) := by
  rw [UInt8.toNat_ofNat']
  simp

theorem byte_cast (X k : Nat) : UInt8.ofNat ((X : Int) / 256 ^ k % 256).toNat = UInt8.ofNat (X / 256 ^ k) := by
  apply UInt8.toNat_inj.1
  rw [UInt8.toNat_ofNat', UInt8.toNat_ofNat', show ((X : Int) / 256 ^ k % 256).toNat = X / 256 ^ k % 256 from by
    rw [show (X : Int) / 256 ^ k % 256 = ((X / 256 ^ k % 256 : Nat) : Int) by simp, Int.toNat_natCast]]
  omega

theorem div_cast (X k : Nat) : (X : Int) / 256 ^ k / 256 = ((X / 256 ^ (k + 1) : Nat) : Int) := by
  rw [Nat.pow_succ, ← Nat.div_div_eq_div_mul]
  simp

theorem cast_div (X k : Nat) : ((X / 256 ^ k : Nat) : Int) = (X : Int) / 256 ^ k := by simp
theorem div_nonneg (X k : Nat) : (0 : Int) ≤ (X : Int) / 256 ^ k := by rw [← cast_div]; exact Int.natCast_nonneg _
theorem div_small (X k : Nat) (h : (X : Int) ≤ 9223372036854775807) : (X : Int) / 256 ^ k ≤ 9223372036854775807 := by
  rw [← cast_div]
  have := Nat.div_le_self X (256 ^ k)
  omega

theorem put_step (n k X : Nat) (h : k < n) : (Lib.byteCells (List.replicate (n - k) 0 ++ be k X)).set (n - 1 - k) (Value.int IntKind.u8 ((X : Int) / 256 ^ k % 256)) = Lib.byteCells (List.replicate (n - (k + 1)) 0 ++ be (k + 1) X) := by
  rw [be_cons, byteCells_cast]
  obtain ⟨j, rfl⟩ : ∃ j, n = k + 1 + j := ⟨n - k - 1, by omega⟩
  rw [show k + 1 + j - k = j + 1 by omega, show k + 1 + j - 1 - k = j by omega, show k + 1 + j - (k + 1) = j by omega, List.replicate_succ']
  simp [Lib.byteCells]

set_option maxRecDepth 100000 in
set_option maxHeartbeats 400000 in
theorem put_any (n : Nat) (x : Int) (w : World) (hn : n ≤ 7) (hx : 0 ≤ x) (hx2 : x ≤ 9223372036854775807) :
    Calls Try.prog 43 #[.int .i64 n, .int .i64 x] w fun e w' => e = .returned (.string (S (be n x.toNat))) ∧ Below w.heap.size w w' := by
  obtain ⟨i0, hi, hz0, hz1, hz2⟩ := info_parts info5
  obtain ⟨X, rfl⟩ := Int.eq_ofNat_of_zero_le hx
  rw [Int.toNat_natCast]
  go_enter Try.func43, Try.ntmps43
  go_wp2_with (refine wpList_make_full _ rfl _ _ 67 rfl w.heap.size 5 i0 (.int .u8 0) 1 Try.underlying67 hi hz0 hz1 .i64 .i64 n n n rfl rfl rfl rfl (by rw [hz2]; omega) (by unfold maxLen; omega) (Nat.le_refl _) ?_; intro w1 hown hg)
  have hc0 : (madeCells (Value.int IntKind.u8 0).cells (n * 1)).toList = Lib.byteCells (List.replicate (n - 0) 0 ++ be 0 X) := by
    rw [Nat.mul_one, show (Value.int IntKind.u8 0).cells = #[Value.int IntKind.u8 0] from rfl, toList_madeCells_one]
    simp [Lib.byteCells, be]
  rw [hc0] at hown
  have HO := Lib.hid hown
  have HB := Lib.hid ((Below.refl w.heap.size w).grown hg (Nat.le_refl _) (by simp))
  clear hown hg hc0 hx hi hz0 hz1 hz2
  go_loopw [1, 11] (fun vx vi wr => ∃ k : Nat, k ≤ n ∧ vx = .int .i64 ((X / 256 ^ k : Nat) : Int) ∧ vi = .int .i64 k ∧ Hid (wr.ownsRow w.heap.size 5 1 (.slice (some ⟨w.heap.size, 0, none⟩) n n) n (Lib.byteCells (List.replicate (n - k) 0 ++ be k X))) ∧ Hid (Below w.heap.size w wr)) (fun _ vi _ => n - (intOf vi).toNat)
  case atStart => exact ⟨0, Nat.zero_le _, by simp, rfl, HO, HB⟩
  case round =>
    obtain ⟨k, hk, rfl, rfl, HO, HB⟩ := hrel
    by_cases hlt : k < n
    · have h1 := HO.out.stored (n - 1 - k) (.int .u8 ((X : Int) / 256 ^ k % 256))
      have c1 : wr.cell? ⟨w.heap.size, n - 1 - k, none⟩ = some (.int .u8 0) := by
        rw [HO.out.cellAt _ (by omega)]
        simp [Lib.byteCells, List.getElem?_append, show n - 1 - k < n - k by omega]
      have f1 := HO.out.frozenAt (n - 1 - k)
      rw [put_step n k X hlt] at h1
      have H1 := Lib.hid h1.1
      have G1 := Lib.hid (HB.out.grown h1.2 HB.out.size (by rintro _ ⟨⟩; exact Nat.le_refl _))
      clear h1
      go_wp2
      exact ⟨⟨k + 1, hlt, by rw [div_cast], by go_num, H1, G1⟩, by simp [intOf]; omega⟩
    · have hkn : k = n := by omega
      subst hkn
      have hcv := own_str HO.out
      go_wp2
      go_ret
      exact ⟨by simp, HB.out⟩

theorem ret_str {a b : ByteArray} (h : a = b) : Ending.returned (.string a) = .returned (.string b) := by rw [h]
theorem ret_int {k : IntKind} {a b : Int} (h : a = b) : Ending.returned (.int k a) = .returned (.int k b) := by rw [h]
theorem ret_bool {a b : Bool} (h : a = b) : Ending.returned (.bool a) = .returned (.bool b) := by rw [h]

theorem take_snoc (l : List UInt8) (k : Nat) (h : k < l.length) : l.take (k + 1) = l.take k ++ [l[k]] := by
  rw [List.take_succ_eq_append_getElem h]

set_option maxRecDepth 100000 in
set_option maxHeartbeats 400000 in
/-- octet.get: the number of bytes, up to seven. -/
theorem get_any (s : ByteArray) (w : World) (hs : s.size ≤ 7) :
    Calls Try.prog 45 #[.string s] w fun e w' => e = .returned (.int .i64 (num s.data.toList)) ∧ w = w' := by
  go_enter Try.func45, Try.ntmps45
  go_wp2
  go_loop [3, 7] (fun vx vi => ∃ k : Nat, k ≤ s.size ∧ vi = .int .i64 k ∧ vx = .int .i64 (num (s.data.toList.take k))) (fun _ vi => s.size - (intOf vi).toNat)
  case atStart => exact ⟨0, Nat.zero_le _, rfl, rfl⟩
  case round =>
    obtain ⟨k, hk, rfl, rfl⟩ := hrel
    by_cases hlt : k < s.size
    · have hsn := take_snoc s.data.toList k hlt
      have hn : num (s.data.toList.take k) < 256 ^ 6 := by
        have h1 := num_lt (s.data.toList.take k)
        have h2 : 256 ^ (s.data.toList.take k).length ≤ 256 ^ 6 := Nat.pow_le_pow_right (by omega) (by rw [List.length_take]; omega)
        omega
      have HS := Lib.hid hsn
      clear hsn
      go_wp2
      exact ⟨⟨k + 1, hlt, by go_num, by rw [or_byte _ _ hn (UInt8.toNat_lt _), HS.out, num_snoc]; rfl⟩, by simp [intOf]; omega⟩
    · have hkn : k = s.size := by omega
      subst hkn
      go_wp2
      go_ret
      exact ⟨ret_int (by rw [List.take_of_length_le (by simp)]), rfl⟩

set_option maxRecDepth 100000 in
set_option maxHeartbeats 400000 in
/-- reveilleref01.Num: the bytes of a number. -/
theorem refNum_any (n : Nat) (x : Int) (w : World) (hn : n ≤ 7) (hx : 0 ≤ x) (hx2 : x ≤ 9223372036854775807) :
    Calls Try.prog 18 #[.int .i64 n, .int .i64 x] w fun e w' => e = .returned (.string (S (be n x.toNat))) ∧ Below w.heap.size w w' := by
  obtain ⟨X, rfl⟩ := Int.eq_ofNat_of_zero_le hx
  rw [Int.toNat_natCast]
  go_enter Try.func18, Try.ntmps18
  go_wp2
  have HB := Lib.hid (Below.refl w.heap.size w)
  clear hx
  go_loopw [1, 5, 6] (fun vx vs vi wr => ∃ k : Nat, k ≤ n ∧ vx = .int .i64 ((X / 256 ^ k : Nat) : Int) ∧ vs = .string (S (be k X)) ∧ vi = .int .i64 k ∧ Hid (Below w.heap.size w wr)) (fun _ _ vi _ => n - (intOf vi).toNat)
  case atStart => exact ⟨0, Nat.zero_le _, by simp, rfl, rfl, HB⟩
  case round =>
    obtain ⟨k, hk, rfl, rfl, rfl, HB⟩ := hrel
    by_cases hlt : k < n
    · have hq := div_nonneg X k
      have hq2 := div_small X k hx2
      have hcv := conv1 wr
      have HB2 := Lib.hid (HB.out.alloc HB.out.size (.cells #[.int .u8 ((X : Int) / 256 ^ k % 256)] 5))
      go_wp2
      exact ⟨⟨k + 1, hlt, by rw [div_cast], by rw [be_cons, byte_cast], by go_num, HB2⟩, by simp [intOf]; omega⟩
    · have hkn : k = n := by omega
      subst hkn
      go_wp2
      go_ret
      exact ⟨rfl, HB.out⟩

/-- Is a number one in n bytes? -/
def fits (n : Nat) (x : Int) : Bool := decide (0 ≤ x) && decide (x < 256 ^ n)

theorem pow_small (n : Nat) (h : n ≤ 7) : (256 : Int) ^ n ≤ 72057594037927936 := by
  have h1 : (256 : Nat) ^ n ≤ 256 ^ 7 := Nat.pow_le_pow_right (by decide) h
  have h2 : ((256 : Nat) ^ 7 : Nat) = 72057594037927936 := by decide
  have h3 : (((256 : Nat) ^ n : Nat) : Int) = (256 : Int) ^ n := by simp
  omega
theorem pow_pos (n : Nat) : (0 : Int) < 256 ^ n := by
  have h3 : (((256 : Nat) ^ n : Nat) : Int) = (256 : Int) ^ n := by simp
  have := Nat.pow_pos (a := 256) (n := n) (by decide)
  omega

set_option maxRecDepth 100000 in
set_option maxHeartbeats 400000 in
theorem fits_any (n : Nat) (x : Int) (w : World) (hn : n ≤ 7) :
    Calls Try.prog 17 #[.int .i64 n, .int .i64 x] w fun e w' => e = .returned (.bool (fits n x)) ∧ w = w' := by
  go_enter Try.func17, Try.ntmps17
  go_wp2
  go_loop [5, 6] (fun vm vi => ∃ k : Nat, k ≤ n ∧ vi = .int .i64 k ∧ vm = .int .i64 ((256 : Int) ^ k)) (fun _ vi => n - (intOf vi).toNat)
  case atStart => exact ⟨0, Nat.zero_le _, rfl, rfl⟩
  case round =>
    obtain ⟨k, hk, rfl, rfl⟩ := hrel
    have p1 := pow_small k (by omega)
    have p2 := pow_pos k
    by_cases hlt : k < n
    · have p3 := pow_small (k + 1) (by omega)
      rw [Int.pow_succ] at p3
      go_wp2
      exact ⟨⟨k + 1, hlt, by go_num, by rw [Int.pow_succ]⟩, by simp [intOf]; omega⟩
    · have hkn : k = n := by omega
      subst hkn
      by_cases h0 : 0 ≤ x
      all_goals
        go_wp2
        go_ret
        exact ⟨ret_bool (by simp [fits, h0] <;> omega), rfl⟩

end Go.Proofs.Ytdiebameocbahaa
