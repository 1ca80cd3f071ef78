/- Plain facts on numbers as bytes, on texts and lists as bytes: no program is named. -/
import Derived.Lib.Builder
import Derived.Lib.Strings
import Derived.PlainAid
namespace Go.Proofs.Ytdiebameocbahaa

/-- A number's n bytes, the highest first. -/
def be : Nat → Nat → List UInt8
  | 0, _ => []
  | n + 1, x => be n (x / 256) ++ [UInt8.ofNat x]

@[simp] theorem be_length (n : Nat) : ∀ x, (be n x).length = n := by
  induction n with
  | zero => intro x; rfl
  | succ n ih => intro x; simp [be, ih]

theorem be_cons (n : Nat) : ∀ x, be (n + 1) x = UInt8.ofNat (x / 256 ^ n) :: be n x := by
  induction n with
  | zero => intro x; simp [be]
  | succ n ih =>
    intro x
    rw [be, ih (x / 256)]
    have : x / 256 / 256 ^ n = x / 256 ^ (n + 1) := by
      rw [Nat.div_div_eq_div_mul, Nat.pow_succ, Nat.mul_comm]
    rw [this]
    rfl

theorem snoc_ind {α : Type} {p : List α → Prop} (h0 : p []) (h1 : ∀ l a, p l → p (l ++ [a])) (l : List α) : p l := by
  rw [← List.reverse_reverse l]
  induction l.reverse with
  | nil => exact h0
  | cons a l ih => rw [List.reverse_cons]; exact h1 _ _ ih

/-- The number of bytes. -/
def num : List UInt8 → Nat := fun l => l.foldl (fun a b => 256 * a + b.toNat) 0

theorem num_snoc (l : List UInt8) (b : UInt8) : num (l ++ [b]) = 256 * num l + b.toNat := by simp [num]

theorem num_lt (l : List UInt8) : num l < 256 ^ l.length := by
  induction l using snoc_ind with
  | h0 => simp [num]
  | h1 l b ih =>
    rw [num_snoc, List.length_append, List.length_singleton, Nat.pow_succ]
    have := b.toNat_lt
    omega

theorem num_be (n : Nat) : ∀ x, num (be n x) = x % 256 ^ n := by
  induction n with
  | zero => intro x; simp [be, num, Nat.mod_one]
  | succ n ih =>
    intro x
    rw [be, num_snoc, ih, Nat.pow_succ, Nat.mul_comm (256 ^ n) 256, Nat.mod_mul, UInt8.toNat_ofNat']
    omega

theorem be_num (l : List UInt8) : be l.length (num l) = l := by
  induction l using snoc_ind with
  | h0 => rfl
  | h1 l b ih =>
    rw [List.length_append, List.length_singleton, be, num_snoc]
    have hb := b.toNat_lt
    rw [show (256 * num l + b.toNat) / 256 = num l by omega, ih]
    congr 2
    apply UInt8.toNat_inj.1
    rw [UInt8.toNat_ofNat']
    omega

/-- A text out of bytes. -/
def S (l : List UInt8) : ByteArray := ⟨l.toArray⟩
theorem S_data (l : List UInt8) : (S l).data.toList = l := rfl
@[simp] theorem S_nil : S [] = ⟨#[]⟩ := rfl
@[simp] theorem S_toList (l : List UInt8) : (S l).toList = l := by rw [Lib.toList_data, S_data]
theorem S_of (s : ByteArray) : S s.data.toList = s := rfl
@[simp] theorem S_size (l : List UInt8) : (S l).size = l.length := by simp [S, ByteArray.size]
@[simp] theorem S_app (a b : List UInt8) : S a ++ S b = S (a ++ b) := by
  apply ByteArray.ext
  simp [S, ByteArray.data_append]
theorem S_inj {a b : List UInt8} (h : S a = S b) : a = b := by
  have := congrArg (fun s => s.data.toList) h
  simpa [S] using this

theorem extract_S (l : List UInt8) (a b : Nat) : (S l).extract a b = S ((l.drop a).take (b - a)) := by
  have : ((S l).extract a b).data.toList = (S ((l.drop a).take (b - a))).data.toList := by
    rw [Lib.extract_data, S_data, S_data]
  rw [← S_of ((S l).extract a b), this]
  rfl
@[simp] theorem extract_take (l : List UInt8) (n : Nat) : (S l).extract 0 n = S (l.take n) := by rw [extract_S]; simp
@[simp] theorem extract_drop (l : List UInt8) (n : Nat) : (S l).extract n l.length = S (l.drop n) := by rw [extract_S, List.take_of_length_le (by simp)]

end Go.Proofs.Ytdiebameocbahaa
