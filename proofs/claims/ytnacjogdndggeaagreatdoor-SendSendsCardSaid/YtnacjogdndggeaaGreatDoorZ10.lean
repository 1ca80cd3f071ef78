/- Plain facts on a row of bytes in files of one size. Plain facts on a tape: records in a row. Plain facts on a tape's syncs: all writes that wait are of segments that are not synced yet. Layers 5 and 8 (seg, tape) in memory: a row's own block and places; a tape's own block, numbers and sizes. -/
import Derived.Test.YtnacjogdndggeaaGreatDoorZ03
import Derived.Lib.ItoaNum
import Derived.Test.YtnacjogdndggeaaGreatDoorZ09
import Derived.Test.YtnacjogdndggeaaGreatDoorZ04
section
namespace Go.Proofs.YtnacjogdndggeaaGreatDoor
open Go.Lib

/-- A number's eight digits. -/
def pad8 (n : Nat) : List UInt8 := List.replicate (8 - (decDigits n).length) 48 ++ decDigits n
def segName (head : List UInt8) (n : Nat) : List UInt8 := head ++ pad8 n

def dval (l : List UInt8) : Nat := l.foldl (fun a c => a * 10 + (c.toNat - 48)) 0
theorem dval_snoc (l : List UInt8) (c : UInt8) : dval (l ++ [c]) = dval l * 10 + (c.toNat - 48) := by simp [dval]
theorem dval_dec (n : Nat) : dval (decDigits n) = n := by
  induction n using Nat.strongRecOn with
  | _ n ih =>
    by_cases h : n < 10
    · rw [decDigits, dif_pos h]
      simp [dval]
      omega
    · rw [decDigits, dif_neg h, dval_snoc, ih (n / 10) (by omega)]
      simp
      omega
theorem dval_zeros (k : Nat) (l : List UInt8) : dval (List.replicate k 48 ++ l) = dval l := by
  induction k with
  | zero => rfl
  | succ k ih =>
    rw [List.replicate_succ, List.cons_append]
    exact ih
theorem pad8_inj {a b : Nat} (h : pad8 a = pad8 b) : a = b := by
  have := congrArg dval h
  unfold pad8 at this
  rwa [dval_zeros, dval_zeros, dval_dec, dval_dec] at this
theorem nDigits_le8 {n : Nat} (h : n ≤ 99999999) : nDigits n ≤ 8 := by
  have key : ∀ (k n : Nat), n < 10 ^ (k + 1) → nDigits n ≤ k + 1 := by
    intro k
    induction k with
    | zero => intro n h; rw [nDigits_small (by simpa using h)]; omega
    | succ k ih =>
      intro n h
      by_cases hs : n < 10
      · rw [nDigits_small hs]; omega
      · rw [nDigits_big hs]
        have := ih (n / 10) (by rw [Nat.pow_succ] at h; omega)
        omega
  exact key 7 n (by omega)
theorem pad8_length {n : Nat} (h : n ≤ 99999999) : (pad8 n).length = 8 := by
  have := nDigits_le8 h
  simp [pad8, decDigits_length]
  omega
theorem segName_inj {h : List UInt8} {a b : Nat} (e : segName h a = segName h b) : a = b := pad8_inj (List.append_cancel_left e)
theorem segName_length {h : List UInt8} {n : Nat} (hn : n ≤ 99999999) : (segName h n).length = h.length + 8 := by
  rw [segName, List.length_append, pad8_length hn]

structure RowM where
  head : List UInt8
  size : Nat
  begin : Nat
  bytes : List UInt8
  many : Nat
  synced : Nat
namespace RowM
def fin (R : RowM) : Nat := R.begin + R.bytes.length
def place (R : RowM) (i : Nat) : Nat := R.begin + i * R.size
def places (R : RowM) : List Nat := (List.range R.many).map R.place
def room (R : RowM) : Nat := if R.fin < R.place R.many then R.place R.many - R.fin else R.size
def name (R : RowM) (i : Nat) : List UInt8 := segName R.head (R.place i)
def chunk (R : RowM) (i : Nat) : List UInt8 := (R.bytes.drop (i * R.size)).take R.size
structure Ok (R : RowM) : Prop where
  size : 16 ≤ R.size ∧ R.size ≤ 4096
  begin : R.begin % R.size = 0
  upto : R.bytes.length ≤ R.many * R.size
  least : 1 ≤ R.many → (R.many - 1) * R.size ≤ R.bytes.length
  synced : R.synced ≤ R.fin
  fin : R.fin ≤ 90000000
  head : R.head.length ≤ 100
  low : R.begin ≤ R.synced
  zero : R.many = 0 → R.begin = 0
/-- Is a new segment needed? -/
def full (R : RowM) : Bool := decide (R.fin = R.place R.many)
def append (R : RowM) (s : List UInt8) : RowM := { R with bytes := R.bytes ++ s, many := if R.full then R.many + 1 else R.many }
/-- The disk behind it. -/
def made (R : RowM) (D : Dsk) : Dsk := if R.full then D.create (R.name R.many) else D
def lastI (R : RowM) : Nat := if R.full then R.many else R.many - 1
def write (R : RowM) (D : Dsk) (s : List UInt8) : Dsk := (R.made D).write (R.name R.lastI) (R.fin - R.place R.lastI) s

/-- A disk bears a row. -/
structure On (R : RowM) (D : Dsk) : Prop where
  ok : R.Ok
  there : ∀ i, i < R.many → ∃ f, D.file (R.name i) = some f ∧ f.now = R.chunk i
  none : ∀ i, R.many ≤ i → D.file (R.name i) = none

theorem place_succ (R : RowM) (i : Nat) : R.place (i + 1) = R.place i + R.size := by
  unfold place
  rw [Nat.succ_mul]
  omega
theorem fin_le (R : RowM) (h : R.Ok) : R.fin ≤ R.place R.many := by
  have := h.upto
  unfold fin place
  omega
theorem place_le (R : RowM) (h : R.Ok) (hm : 1 ≤ R.many) : R.place (R.many - 1) ≤ R.fin := by
  have := h.least hm
  unfold fin place
  omega
theorem place_last (R : RowM) (hm : 1 ≤ R.many) : R.place R.many = R.place (R.many - 1) + R.size := by
  obtain ⟨k, hk⟩ : ∃ k, R.many = k + 1 := ⟨R.many - 1, by omega⟩
  rw [hk, place_succ, Nat.add_sub_cancel]
theorem full_iff (R : RowM) : R.full = true ↔ R.fin = R.place R.many := by simp [full]
theorem many_pos (R : RowM) (h : R.Ok) (hf : R.full = false) : 1 ≤ R.many := by
  rcases Nat.eq_zero_or_pos R.many with h0 | h0
  · have := h.upto
    rw [h0] at this
    have hf2 : R.full = true := by
      rw [full_iff]
      unfold fin place
      rw [h0]
      omega
    rw [hf] at hf2
    cases hf2
  · exact h0
theorem room_le (R : RowM) (h : R.Ok) : R.room ≤ R.size := by
  unfold room
  split
  · have h1 := R.fin_le h
    rcases Nat.eq_zero_or_pos R.many with h0 | h0
    · have h2 := R.fin_le h
      rw [h0] at *
      unfold place fin at *
      omega
    · have := R.place_le h h0
      have := R.place_last h0
      omega
  · omega
theorem room_full (R : RowM) (hf : R.full = true) : R.room = R.size := by
  rw [full_iff] at hf
  unfold room
  rw [if_neg (by omega)]
theorem room_some (R : RowM) (h : R.Ok) (hf : R.full = false) : R.room = R.place R.many - R.fin ∧ R.fin < R.place R.many := by
  have h1 := R.fin_le h
  have h2 : R.fin ≠ R.place R.many := fun e => by
    rw [← full_iff, hf] at e
    cases e
  unfold room
  rw [if_pos (by omega)]
  exact ⟨rfl, by omega⟩
theorem name_inj (R : RowM) (h : R.Ok) {i j : Nat} (e : R.name i = R.name j) : i = j := by
  have h1 := segName_inj e
  have h2 := h.size.1
  unfold place at h1
  exact Nat.eq_of_mul_eq_mul_right (show 0 < R.size by omega) (by omega)
theorem places_length (R : RowM) : R.places.length = R.many := by simp [places]
theorem places_getD (R : RowM) {i : Nat} (h : i < R.many) : R.places.getD i 0 = R.place i := by
  unfold places
  rw [List.getD_eq_getElem?_getD, List.getElem?_map, List.getElem?_range h]
  rfl
theorem place_append (R : RowM) (s : List UInt8) (i : Nat) : (R.append s).place i = R.place i := rfl
theorem name_append (R : RowM) (s : List UInt8) (i : Nat) : (R.append s).name i = R.name i := rfl
theorem fin_append (R : RowM) (s : List UInt8) : (R.append s).fin = R.fin + s.length := by
  simp [fin, append]
  omega
theorem places_append (R : RowM) (s : List UInt8) : (R.append s).places = if R.full then R.places ++ [R.fin] else R.places := by
  unfold places
  cases hf : R.full with
  | true =>
    have h1 := (full_iff R).1 hf
    simp only [append, hf, if_true]
    rw [List.range_succ, List.map_append]
    show List.map R.place _ ++ [R.place R.many] = _
    rw [h1]
  | false =>
    simp only [append, hf]
    rfl
theorem ok_append (R : RowM) (h : R.Ok) (s : List UInt8) (hs : s.length ≤ R.room) (hf : R.fin + s.length ≤ 90000000) : (R.append s).Ok := by
  have h0 := R.fin_le h
  have hq := h.synced
  refine ⟨h.size, h.begin, ?_, ?_, ?_, by rw [fin_append]; exact hf, h.head, h.low, fun e => ?_⟩
  · cases hb : R.full with
    | true =>
      have h1 := (full_iff R).1 hb
      have h2 := R.room_full hb
      simp only [append, hb, if_true, List.length_append]
      unfold fin place at h1
      rw [Nat.succ_mul]
      omega
    | false =>
      have h2 := R.room_some h hb
      simp only [append, hb, List.length_append]
      simp only [Bool.false_eq_true, if_false]
      unfold fin place at *
      omega
  · intro _
    cases hb : R.full with
    | true =>
      have h1 := (full_iff R).1 hb
      simp only [append, hb, if_true, List.length_append, Nat.add_sub_cancel]
      unfold fin place at h1
      omega
    | false =>
      have h3 := h.least (R.many_pos h hb)
      simp only [append, hb, List.length_append]
      simp only [Bool.false_eq_true, if_false]
      omega
  · rw [fin_append]
    show R.synced ≤ _
    omega
  · cases hb : R.full with
    | true => simp [append, hb] at e
    | false =>
      have := R.many_pos h hb
      simp [append, hb] at e
      omega

theorem chunk_append_old (R : RowM) (s : List UInt8) (i : Nat) (h : (i + 1) * R.size ≤ R.bytes.length) : (R.append s).chunk i = R.chunk i := by
  show ((R.bytes ++ s).drop (i * R.size)).take R.size = _
  rw [Nat.succ_mul] at h
  rw [List.drop_append_of_le_length (by omega), List.take_append_of_le_length (by simp; omega)]
  rfl
theorem chunk_append_last (R : RowM) (s : List UInt8) (i : Nat) (h : i * R.size ≤ R.bytes.length) (h2 : R.bytes.length + s.length ≤ (i + 1) * R.size) : (R.append s).chunk i = R.bytes.drop (i * R.size) ++ s := by
  show ((R.bytes ++ s).drop (i * R.size)).take R.size = _
  rw [Nat.succ_mul] at h2
  rw [List.drop_append_of_le_length (by omega), List.take_of_length_le (by simp; omega)]

theorem on_append (R : RowM) {D : Dsk} (h : R.On D) (s : List UInt8) (hs : s.length ≤ R.room) (hf : R.fin + s.length ≤ 90000000) : (R.append s).On (R.write D s) := by
  have hle := R.fin_le h.ok
  cases hb : R.full with
  | true =>
    have h1 := (full_iff R).1 hb
    have h2 := R.room_full hb
    have hl : R.lastI = R.many := by simp [lastI, hb]
    have hfile : (R.made D).file (R.name R.many) = some ⟨[], []⟩ := by
      simp only [made, hb, if_true]
      rw [Dsk.file_create, if_pos rfl]
    have hlen : R.bytes.length = R.many * R.size := by unfold fin place at h1; omega
    refine ⟨R.ok_append h.ok s hs hf, fun i hi => ?_, fun i hi => ?_⟩
    · have hi' : i < R.many + 1 := by simpa [append, hb] using hi
      unfold write
      rw [hl, name_append, Dsk.file_write hfile]
      by_cases e : i = R.many
      · subst e
        rw [if_pos rfl]
        refine ⟨_, rfl, ?_⟩
        rw [R.chunk_append_last s R.many (by omega) (by rw [Nat.succ_mul]; omega), List.drop_of_length_le (by omega)]
        show lay [] (R.fin - R.place R.many) s = _
        rw [h1, Nat.sub_self]
        exact lay_end [] s
      · rw [if_neg fun e2 => e (R.name_inj h.ok e2)]
        obtain ⟨f, hf1, hf2⟩ := h.there i (by omega)
        refine ⟨f, ?_, ?_⟩
        · simp only [made, hb, if_true]
          rw [Dsk.file_create, if_neg fun e2 => e (R.name_inj h.ok e2), hf1]
        · rw [hf2, R.chunk_append_old s i (by rw [hlen]; exact Nat.mul_le_mul_right _ (by omega))]
    · have hi' : R.many + 1 ≤ i := by simpa [append, hb] using hi
      unfold write
      rw [hl, name_append, Dsk.file_write hfile, if_neg fun e2 => by have := R.name_inj h.ok e2; omega]
      simp only [made, hb, if_true]
      rw [Dsk.file_create, if_neg fun e2 => by have := R.name_inj h.ok e2; omega]
      exact h.none i (by omega)
  | false =>
    have hm := R.many_pos h.ok hb
    have h2 := R.room_some h.ok hb
    have hl : R.lastI = R.many - 1 := by simp [lastI, hb]
    have hmade : R.made D = D := by simp [made, hb]
    obtain ⟨f, hf1, hf2⟩ := h.there (R.many - 1) (by omega)
    have hpl := R.place_le h.ok hm
    have hpl2 := R.place_last hm
    have hleast := h.ok.least hm
    have hupto := h.ok.upto
    have hms : R.many * R.size = (R.many - 1) * R.size + R.size := by
      obtain ⟨k, hk⟩ : ∃ k, R.many = k + 1 := ⟨R.many - 1, by omega⟩
      rw [hk, Nat.succ_mul, Nat.add_sub_cancel]
    have hcl : R.chunk (R.many - 1) = R.bytes.drop ((R.many - 1) * R.size) := by
      unfold chunk
      rw [List.take_of_length_le (by simp; omega)]
    have hfl : f.now.length = R.fin - R.place (R.many - 1) := by
      rw [hf2, hcl, List.length_drop]
      unfold fin place
      omega
    refine ⟨R.ok_append h.ok s hs hf, fun i hi => ?_, fun i hi => ?_⟩
    · have hi' : i < R.many := by simpa [append, hb] using hi
      unfold write
      rw [hl, hmade, name_append, Dsk.file_write hf1]
      by_cases e : i = R.many - 1
      · subst e
        rw [if_pos rfl]
        refine ⟨_, rfl, ?_⟩
        rw [R.chunk_append_last s (R.many - 1) hleast (by rw [Nat.succ_mul]; unfold fin place at *; omega)]
        show lay f.now (R.fin - R.place (R.many - 1)) s = _
        rw [← hfl, lay_end, hf2, hcl]
      · rw [if_neg fun e2 => e (R.name_inj h.ok e2)]
        obtain ⟨f', hf1', hf2'⟩ := h.there i hi'
        refine ⟨f', hf1', ?_⟩
        rw [hf2', R.chunk_append_old s i]
        exact Nat.le_trans (Nat.mul_le_mul_right _ (show i + 1 ≤ R.many - 1 by omega)) hleast
    · have hi' : R.many ≤ i := by simpa [append, hb] using hi
      unfold write
      rw [hl, hmade, name_append, Dsk.file_write hf1, if_neg fun e2 => by have := R.name_inj h.ok e2; omega]
      exact h.none i hi'
/-- In which segment a place lies. -/
def segI (R : RowM) (a : Nat) : Nat := (a - R.begin) / R.size
/-- How many bytes lie from a place to the end of its segment. -/
def left (R : RowM) (a : Nat) : Nat := if a < R.begin ∨ R.fin ≤ a then 0 else min (R.place (R.segI a) + R.size) R.fin - a
theorem seg_of (R : RowM) (h : R.Ok) {a : Nat} (ha : R.begin ≤ a) : a / R.size * R.size = R.place (R.segI a) := by
  unfold place segI
  have h1 := h.begin
  have h2 := h.size.1
  obtain ⟨q, hq⟩ : ∃ q, R.begin = q * R.size := ⟨R.begin / R.size, by
    have := Nat.div_add_mod R.begin R.size
    rw [h1, Nat.mul_comm] at this
    omega⟩
  obtain ⟨k, rfl⟩ : ∃ k, a = q * R.size + k := ⟨a - R.begin, by omega⟩
  rw [hq, Nat.add_sub_cancel_left, Nat.add_comm (q * R.size) k, Nat.add_mul_div_right _ _ (by omega), Nat.add_mul, Nat.add_comm]
theorem seg_le (R : RowM) (h : R.Ok) {a : Nat} (ha : R.begin ≤ a) : R.place (R.segI a) ≤ a ∧ a < R.place (R.segI a) + R.size := by
  have h2 := h.size.1
  have h3 := Nat.div_add_mod (a - R.begin) R.size
  have h4 := Nat.mod_lt (a - R.begin) (show 0 < R.size by omega)
  unfold place segI
  rw [Nat.mul_comm] at h3
  omega
theorem seg_lt (R : RowM) (h : R.Ok) {a : Nat} (ha : R.begin ≤ a) (hf : a < R.fin) : R.segI a < R.many := by
  have h2 := R.seg_le h ha
  have h3 := R.fin_le h
  have h5 := h.size.1
  unfold place at h2 h3
  have h4 : R.segI a * R.size < R.many * R.size := by omega
  exact Nat.lt_of_mul_lt_mul_right h4
theorem read_chunk (R : RowM) (h : R.Ok) {a n : Nat} (ha : R.begin ≤ a) (hn : n ≤ R.left a) : ((R.chunk (R.segI a)).drop (a - R.place (R.segI a))).take n = (R.bytes.drop (a - R.begin)).take n := by
  unfold left at hn
  split at hn
  · obtain rfl : n = 0 := by omega
    simp
  · have h2 := R.seg_le h ha
    unfold chunk
    rw [List.drop_take, List.drop_drop, List.take_take, Nat.min_eq_left (by omega)]
    congr 2
    unfold place at *
    omega
theorem chunk_len (R : RowM) (h : R.Ok) {a n : Nat} (ha : R.begin ≤ a) (hn : n ≤ R.left a) (h1 : 1 ≤ n) : a - R.place (R.segI a) + n ≤ (R.chunk (R.segI a)).length := by
  unfold left at hn
  split at hn
  · omega
  · have h2 := R.seg_le h ha
    unfold chunk
    simp only [List.length_take, List.length_drop]
    unfold place fin at *
    omega
end RowM

end Go.Proofs.YtnacjogdndggeaaGreatDoor
end

section
namespace Go.Proofs.YtnacjogdndggeaaGreatDoor
open Go.Lib

namespace RowM
theorem room_append (R : RowM) (h : R.Ok) (s : List UInt8) (hs : s.length ≤ R.room) : (R.append s).room = if s.length = R.room then R.size else R.room - s.length := by
  have h0 := R.fin_le h
  have h5 := h.size.1
  unfold room at *
  rw [fin_append, place_append]
  show (if R.fin + s.length < R.place (R.append s).many then R.place (R.append s).many - (R.fin + s.length) else R.size) = _
  cases hb : R.full with
  | true =>
    have h1 := (full_iff R).1 hb
    have h2 : (R.append s).many = R.many + 1 := by simp [append, hb]
    rw [h2, place_succ]
    rw [if_neg (show ¬ R.fin < R.place R.many by omega)] at hs ⊢
    split <;> split <;> omega
  | false =>
    have h2 : (R.append s).many = R.many := by simp [append, hb]
    have h1 : R.fin ≠ R.place R.many := fun e => by
      rw [← full_iff, hb] at e
      cases e
    rw [h2]
    rw [if_pos (show R.fin < R.place R.many by omega)] at hs ⊢
    split <;> split <;> omega
theorem left_append (R : RowM) (s : List UInt8) {a : Nat} : R.left a ≤ (R.append s).left a := by
  unfold left
  rw [fin_append]
  show _ ≤ if a < R.begin ∨ R.fin + s.length ≤ a then 0 else min (R.place (R.segI a) + R.size) (R.fin + s.length) - a
  split
  · omega
  · rw [if_neg (by omega)]
    omega
theorem left_fin (R : RowM) {a n : Nat} (h : n ≤ R.left a) (h1 : 1 ≤ n) : R.begin ≤ a ∧ a + n ≤ R.fin := by
  unfold left at h
  split at h <;> omega
/-- What is appended lies in one segment. -/
theorem left_new (R : RowM) (h : R.Ok) (s : List UInt8) (h1 : s ≠ []) (hs : s.length ≤ R.room) : s.length ≤ (R.append s).left R.fin := by
  have hl : 0 < s.length := List.length_pos_iff.2 h1
  have hb : R.begin ≤ R.fin := by unfold fin; omega
  have h3 := R.seg_le h hb
  have h5 := h.size.1
  unfold left
  rw [fin_append]
  show _ ≤ if R.fin < R.begin ∨ R.fin + s.length ≤ R.fin then 0 else min (R.place (R.segI R.fin) + R.size) (R.fin + s.length) - R.fin
  rw [if_neg (by omega)]
  have key : R.fin + R.room ≤ R.place (R.segI R.fin) + R.size := by
    cases hf : R.full with
    | true =>
      have e := (full_iff R).1 hf
      rw [R.room_full hf]
      have : R.place (R.segI R.fin) = R.fin := by
        have hp : R.fin - R.begin = R.many * R.size := by unfold place at e; omega
        unfold place segI
        rw [hp, Nat.mul_div_cancel _ (by omega)]
        unfold place at e
        omega
      omega
    | false =>
      have h6 := R.room_some h hf
      have h7 := R.many_pos h hf
      have h8 := R.place_le h h7
      have h9 := R.place_last h7
      have : R.segI R.fin = R.many - 1 := by
        have hp : R.fin - R.begin = (R.fin - R.place (R.many - 1)) + (R.many - 1) * R.size := by unfold place at *; omega
        unfold segI
        rw [hp, Nat.add_mul_div_right _ _ (by omega), Nat.div_eq_of_lt (by omega), Nat.zero_add]
      rw [this]
      omega
  omega
theorem bytes_new (R : RowM) (s : List UInt8) : ((R.append s).bytes.drop (R.fin - R.begin)).take s.length = s := by
  show ((R.bytes ++ s).drop (R.fin - R.begin)).take s.length = s
  unfold fin
  rw [Nat.add_sub_cancel_left, List.drop_append_of_le_length (Nat.le_refl _), List.drop_of_length_le (Nat.le_refl _), List.nil_append, List.take_of_length_le (Nat.le_refl _)]
theorem bytes_old (R : RowM) (s : List UInt8) {a n : Nat} (h : a + n ≤ R.bytes.length) : ((R.append s).bytes.drop a).take n = (R.bytes.drop a).take n := by
  show ((R.bytes ++ s).drop a).take n = _
  rw [List.drop_append_of_le_length (by omega), List.take_append_of_le_length (by simp; omega)]
end RowM

def tapeHead : List UInt8 := [116, 97, 112, 101, 45]
structure TapeM where
  row : RowM
  recs : List (Nat × Rec)
  last : Int
namespace TapeM
def ids (T : TapeM) : List Nat := T.recs.map (·.1)
def long (p : Nat × Rec) : Nat := (putF p.2).length
structure Ok (T : TapeM) : Prop where
  row : T.row.Ok
  size : T.row.size = 1024
  head : T.row.head = tapeHead
  room : 3 ≤ T.row.room
  recs : ∀ p ∈ T.recs, rightF p.2 = true ∧ p.2.kind ≠ 0 ∧ long p ≤ T.row.left p.1 ∧ (T.row.bytes.drop (p.1 - T.row.begin)).take (long p) = putF p.2
  rise : T.recs.Pairwise fun p q => p.1 < q.1
/-- Does a record need a filler ahead? -/
def gap (T : TapeM) (m : Rec) : Bool := !(decide (T.row.room = (putF m).length) || decide ((putF m).length + 3 ≤ T.row.room))
def row1 (T : TapeM) (m : Rec) : RowM := if T.gap m then T.row.append (fillF T.row.room) else T.row
def cost (T : TapeM) (m : Rec) : Nat := (if T.gap m then T.row.room else 0) + (putF m).length
def append (T : TapeM) (m : Rec) : TapeM := { row := (T.row1 m).append (putF m), recs := T.recs ++ [((T.row1 m).fin, m)], last := m.born }
/-- The disk behind it. -/
def disk1 (T : TapeM) (D : Dsk) (m : Rec) : Dsk := if T.gap m then T.row.write D (fillF T.row.room) else D
def write (T : TapeM) (D : Dsk) (m : Rec) : Dsk := (T.row1 m).write (T.disk1 D m) (putF m)

/-- How many bytes each record has. -/
def sizes (T : TapeM) : List (Int × Nat) := T.recs.map fun p => ((p.1 : Int), long p)

theorem fillF_len {n : Nat} (h : 3 ≤ n) : (fillF n).length = n := by
  simp [fillF]
  omega
theorem room_le (T : TapeM) (h : T.Ok) : T.row.room ≤ 1024 := by
  have := T.row.room_le h.row
  rw [h.size] at this
  exact this
theorem gap_false (T : TapeM) {m : Rec} (h : T.gap m = false) : T.row.room = (putF m).length ∨ (putF m).length + 3 ≤ T.row.room := by
  unfold gap at h
  simp at h
  omega
theorem row1_ok (T : TapeM) (h : T.Ok) (m : Rec) (hf : T.row.fin + 1024 ≤ 90000000) : (T.row1 m).Ok := by
  have h1 := T.room_le h
  have h2 := h.room
  unfold row1
  split
  · exact T.row.ok_append h.row _ (by rw [fillF_len h2]; omega) (by rw [fillF_len h2]; omega)
  · exact h.row
theorem row1_fin (T : TapeM) (h : T.Ok) (m : Rec) : (T.row1 m).fin + (putF m).length = T.row.fin + T.cost m := by
  have h2 := h.room
  unfold row1 cost
  split
  · rw [RowM.fin_append, fillF_len h2]
    omega
  · omega
theorem cost_le (T : TapeM) (h : T.Ok) {m : Rec} (hr : rightF m = true) (h0 : m.kind ≠ 0) : T.cost m ≤ 1345 := by
  have h1 := T.room_le h
  have h2 := putF_len m hr h0
  unfold cost
  split <;> omega
theorem row1_room (T : TapeM) (h : T.Ok) {m : Rec} (hr : rightF m = true) (h0 : m.kind ≠ 0) : (T.row1 m).room = (putF m).length ∨ (putF m).length + 3 ≤ (T.row1 m).room := by
  have h2 := h.room
  have h3 := putF_len m hr h0
  unfold row1
  cases hg : T.gap m with
  | true =>
    right
    simp only [if_true]
    rw [T.row.room_append h.row _ (by rw [fillF_len h2]; omega), fillF_len h2, if_pos rfl, h.size]
    omega
  | false =>
    simp only [Bool.false_eq_true, if_false]
    exact T.gap_false hg
theorem on1 (T : TapeM) (h : T.Ok) {D : Dsk} (ho : T.row.On D) (m : Rec) (hf : T.row.fin + 1024 ≤ 90000000) : (T.row1 m).On (T.disk1 D m) := by
  have h1 := T.room_le h
  have h2 := h.room
  unfold row1 disk1
  split
  · exact T.row.on_append ho _ (by rw [fillF_len h2]; omega) (by rw [fillF_len h2]; omega)
  · exact ho
theorem on_append (T : TapeM) (h : T.Ok) {D : Dsk} (ho : T.row.On D) {m : Rec} (hr : rightF m = true) (h0 : m.kind ≠ 0) (hf : T.row.fin + 2000 ≤ 90000000) : (T.append m).row.On (T.write D m) := by
  have h1 := T.room_le h
  have h3 := putF_len m hr h0
  have h4 := T.row1_room h hr h0
  have h5 := T.row1_fin h m
  have h6 := T.cost_le h hr h0
  exact (T.row1 m).on_append (T.on1 h ho m (by omega)) _ (by omega) (by omega)

theorem recs_row (s : List UInt8) (R : RowM) (L : List (Nat × Rec))
    (h : ∀ p ∈ L, rightF p.2 = true ∧ p.2.kind ≠ 0 ∧ long p ≤ R.left p.1 ∧ (R.bytes.drop (p.1 - R.begin)).take (long p) = putF p.2) :
    ∀ p ∈ L, rightF p.2 = true ∧ p.2.kind ≠ 0 ∧ long p ≤ (R.append s).left p.1 ∧ ((R.append s).bytes.drop (p.1 - (R.append s).begin)).take (long p) = putF p.2 := by
  intro p hp
  obtain ⟨h1, h2, h3, h4⟩ := h p hp
  have h5 := putF_len p.2 h1 h2
  obtain ⟨h6, h7⟩ := R.left_fin h3 (by unfold long; omega)
  refine ⟨h1, h2, Nat.le_trans h3 (R.left_append s), ?_⟩
  show ((R.append s).bytes.drop (p.1 - R.begin)).take (long p) = putF p.2
  rw [R.bytes_old s (by unfold RowM.fin at h7; omega), h4]

theorem ok_append (T : TapeM) (h : T.Ok) {m : Rec} (hr : rightF m = true) (h0 : m.kind ≠ 0) (hf : T.row.fin + 2000 ≤ 90000000) : (T.append m).Ok := by
  have h1 := T.room_le h
  have h2 := h.room
  have h3 := putF_len m hr h0
  have h4 := T.row1_room h hr h0
  have h5 := T.row1_fin h m
  have h6 := T.cost_le h hr h0
  have h7 := T.row1_ok h m (by omega)
  have hr1 : ∀ p ∈ T.recs, rightF p.2 = true ∧ p.2.kind ≠ 0 ∧ long p ≤ (T.row1 m).left p.1 ∧ ((T.row1 m).bytes.drop (p.1 - (T.row1 m).begin)).take (long p) = putF p.2 := by
    unfold row1
    split
    · exact recs_row _ T.row T.recs h.recs
    · exact h.recs
  have hfin : ∀ p ∈ T.recs, p.1 + long p ≤ (T.row1 m).fin := fun p hp => by
    obtain ⟨q1, q2, q3, _⟩ := hr1 p hp
    have q5 := putF_len p.2 q1 q2
    exact ((T.row1 m).left_fin q3 (by unfold long; omega)).2
  have hbeg : (T.row1 m).begin ≤ (T.row1 m).fin := by unfold RowM.fin; omega
  have hne : putF m ≠ [] := fun e => by rw [e] at h3; simp at h3
  have hrm : (putF m).length ≤ (T.row1 m).room := by omega
  refine ⟨(T.row1 m).ok_append h7 _ (by omega) (by omega), ?_, ?_, ?_, ?_, ?_⟩
  · show (T.row1 m).size = 1024
    unfold row1
    split <;> exact h.size
  · show (T.row1 m).head = tapeHead
    unfold row1
    split <;> exact h.head
  · show 3 ≤ ((T.row1 m).append (putF m)).room
    rw [(T.row1 m).room_append h7 _ (by omega)]
    have h8 : (T.row1 m).size = 1024 := by
      unfold row1
      split <;> exact h.size
    split
    · omega
    · omega
  · intro p hp
    rcases List.mem_append.1 hp with hp | hp
    · exact recs_row _ (T.row1 m) T.recs hr1 p hp
    · obtain rfl : p = ((T.row1 m).fin, m) := by simpa using hp
      exact ⟨hr, h0, (T.row1 m).left_new h7 _ hne hrm, (T.row1 m).bytes_new _⟩
  · refine List.pairwise_append.2 ⟨h.rise, List.pairwise_singleton _ _, fun p hp q hq => ?_⟩
    obtain rfl : q = ((T.row1 m).fin, m) := by simpa using hq
    have := hfin p hp
    obtain ⟨q1, q2, q3, _⟩ := hr1 p hp
    have q5 := putF_len p.2 q1 q2
    show p.1 < (T.row1 m).fin
    unfold long at this
    omega
/-- All records lie ahead of what is put next. -/
theorem recs_below (T : TapeM) (h : T.Ok) (m : Rec) : ∀ p ∈ T.recs, p.1 + long p ≤ T.row.fin ∧ T.row.fin ≤ (T.row1 m).fin ∧ 1 ≤ long p := by
  intro p hp
  obtain ⟨q1, q2, q3, _⟩ := h.recs p hp
  have q5 := putF_len p.2 q1 q2
  refine ⟨(T.row.left_fin q3 (by unfold long; omega)).2, ?_, by unfold long; omega⟩
  unfold row1
  split
  · rw [RowM.fin_append]
    omega
  · omega
theorem sizes_append (T : TapeM) (h : T.Ok) (m : Rec) : (T.append m).sizes = aput (Lit.int .i64) ((T.row1 m).fin : Int) (putF m).length T.sizes := by
  rw [aput_last]
  · simp [sizes, append, long]
  · intro q hq
    obtain ⟨p, hp, rfl⟩ := List.mem_map.1 hq
    have := T.recs_below h m p hp
    show (p.1 : Int) < _
    omega
theorem size_of (T : TapeM) (h : T.Ok) {id : Nat} {m : Rec} (hm : (id, m) ∈ T.recs) : aget T.sizes (id : Int) = some (putF m).length := by
  refine aget_of_mem ?_ (List.mem_map.2 ⟨(id, m), hm, rfl⟩)
  unfold Uni sizes
  rw [List.pairwise_map]
  exact h.rise.imp fun {a b} hab e => by
    have : (a.1 : Int) = b.1 := e
    omega
end TapeM

end Go.Proofs.YtnacjogdndggeaaGreatDoor
end

section
namespace Go.Proofs.YtnacjogdndggeaaGreatDoor
open Go.Lib

namespace RowM
/-- Is a segment not synced yet? -/
def late (R : RowM) (p : Nat) : Bool := decide (R.synced < p + R.size) && decide (R.synced < R.fin)
def lateNames (R : RowM) : List (List UInt8) := (R.places.filter R.late).map fun p => segName R.head p
def synced' (R : RowM) : RowM := if R.lateNames = [] then R else { R with synced := R.fin }
def syncD (R : RowM) (D : Dsk) : Dsk := D.sync R.lateNames

theorem On.files {R : RowM} {D D' : Dsk} (h : R.On D) (hf : ∀ n, (D'.file n).map (·.now) = (D.file n).map (·.now)) : R.On D' := by
  refine ⟨h.ok, fun i hi => ?_, fun i hi => ?_⟩
  · obtain ⟨f, h1, h2⟩ := h.there i hi
    have h3 := hf (R.name i)
    rw [h1] at h3
    cases hd : D'.file (R.name i) with
    | none => rw [hd] at h3; cases h3
    | some f' =>
      rw [hd] at h3
      exact ⟨f', rfl, by injection h3 with h3; exact h3.trans h2⟩
  · have h3 := hf (R.name i)
    rw [h.none i hi] at h3
    cases hd : D'.file (R.name i) with
    | none => rfl
    | some f' => rw [hd] at h3; cases h3
theorem On.sync {R : RowM} {D : Dsk} (h : R.On D) : R.synced'.On (R.syncD D) := by
  have h1 : R.On (R.syncD D) := h.files (Dsk.file_sync_now _ _)
  unfold synced'
  split
  · exact h1
  · exact ⟨⟨h1.ok.size, h1.ok.begin, h1.ok.upto, h1.ok.least, Nat.le_refl _, h1.ok.fin, h1.ok.head, Nat.le_add_right _ _, h1.ok.zero⟩, h1.there, h1.none⟩
theorem late_there {R : RowM} {D : Dsk} (h : R.On D) : ∀ n ∈ R.lateNames, (D.file n).isSome = true := by
  intro n hn
  obtain ⟨p, hp, rfl⟩ := List.mem_map.1 hn
  obtain ⟨hp, _⟩ := List.mem_filter.1 hp
  obtain ⟨i, hi, rfl⟩ := List.mem_map.1 hp
  obtain ⟨f, hf, _⟩ := h.there i (List.mem_range.1 hi)
  show (D.file (R.name i)).isSome = true
  rw [hf]
  rfl
/-- Of which segments writes wait. -/
def Lag (R : RowM) (D : Dsk) : Prop := ∀ q ∈ D.waits, R.synced < R.fin ∧ ∃ i, i < R.many ∧ q.name = R.name i ∧ R.synced < R.place i + R.size
theorem sync_waits {R : RowM} {D : Dsk} (h : R.On D) (hl : R.Lag D) : (R.syncD D).waits = [] := by
  unfold syncD
  rw [Dsk.waits_sync _ _ (late_there h), List.filter_eq_nil_iff]
  intro q hq
  obtain ⟨h1, i, hi, h2, h3⟩ := hl q hq
  have : q.name ∈ R.lateNames := by
    unfold lateNames
    rw [h2]
    refine List.mem_map.2 ⟨R.place i, List.mem_filter.2 ⟨List.mem_map.2 ⟨i, List.mem_range.2 hi, rfl⟩, ?_⟩, rfl⟩
    unfold late
    simp [h1, h3]
  simp [this]
theorem sync_lag {R : RowM} {D : Dsk} (h : R.On D) (hl : R.Lag D) : R.synced'.Lag (R.syncD D) := by
  intro q hq
  rw [sync_waits h hl] at hq
  cases hq
theorem synced_fin {R : RowM} (h : R.Ok) : R.synced'.synced = R.fin := by
  unfold synced'
  split
  · rename_i e
    have h1 := h.synced
    have h2 := h.low
    rcases Nat.lt_or_ge R.synced R.fin with h3 | h3
    · exfalso
      have hm : 1 ≤ R.many := by
        rcases Nat.eq_zero_or_pos R.many with h0 | h0
        · have h4 := h.upto
          rw [h0] at h4
          unfold fin at h3
          omega
        · exact h0
      have h5 := R.place_last hm
      have h6 := R.fin_le h
      have : segName R.head (R.place (R.many - 1)) ∈ R.lateNames := by
        unfold lateNames
        refine List.mem_map.2 ⟨R.place (R.many - 1), List.mem_filter.2 ⟨List.mem_map.2 ⟨R.many - 1, List.mem_range.2 (by omega), rfl⟩, ?_⟩, rfl⟩
        unfold late
        simp only [Bool.and_eq_true, decide_eq_true_iff]
        omega
      rw [e] at this
      cases this
    · omega
  · rfl

/-- The file into which an append writes. -/
theorem write_at {R : RowM} {D : Dsk} (h : R.On D) : ∃ f, (R.made D).file (R.name R.lastI) = some f ∧ f.now.length = R.fin - R.place R.lastI ∧ R.place R.lastI ≤ R.fin ∧ R.fin < R.place R.lastI + R.size ∧ R.lastI < (if R.full then R.many + 1 else R.many) := by
  have h0 := R.fin_le h.ok
  have h9 := h.ok.size.1
  cases hb : R.full with
  | true =>
    have h1 := (full_iff R).1 hb
    have hl : R.lastI = R.many := by simp [lastI, hb]
    refine ⟨⟨[], []⟩, ?_, ?_, ?_, ?_, ?_⟩
    · rw [hl]
      simp only [made, hb, if_true]
      rw [Dsk.file_create, if_pos rfl]
    · rw [hl]
      simp
      omega
    · rw [hl]
      omega
    · rw [hl]
      omega
    · rw [hl]
      simp
  | false =>
    have hm := R.many_pos h.ok hb
    have h2 := R.room_some h.ok hb
    have hl : R.lastI = R.many - 1 := by simp [lastI, hb]
    have hmade : R.made D = D := by simp [made, hb]
    obtain ⟨f, hf1, hf2⟩ := h.there (R.many - 1) (by omega)
    have hpl := R.place_le h.ok hm
    have hpl2 := R.place_last hm
    have hms : R.many * R.size = (R.many - 1) * R.size + R.size := by
      obtain ⟨k, hk⟩ : ∃ k, R.many = k + 1 := ⟨R.many - 1, by omega⟩
      rw [hk, Nat.succ_mul, Nat.add_sub_cancel]
    have hupto := h.ok.upto
    have hcl : R.chunk (R.many - 1) = R.bytes.drop ((R.many - 1) * R.size) := by
      unfold chunk
      rw [List.take_of_length_le (by simp; omega)]
    refine ⟨f, by rw [hl, hmade, hf1], ?_, by rw [hl]; exact hpl, by rw [hl]; omega, by rw [hl]; simp; omega⟩
    rw [hf2, hcl, List.length_drop, hl]
    unfold fin place
    omega
theorem made_waits (R : RowM) (D : Dsk) : (R.made D).waits = D.waits := by
  unfold made
  split <;> rfl
theorem made_size {R : RowM} {D : Dsk} (h : R.On D) (hu : D.Ok) : (R.made D).size = D.size ∧ (R.made D).Ok := by
  unfold made
  split
  · exact ⟨Dsk.size_create hu (h.none _ (Nat.le_refl _)), hu.create _⟩
  · exact ⟨rfl, hu⟩
theorem made_cap (R : RowM) (D : Dsk) : (R.made D).cap = D.cap := by
  unfold made
  split <;> rfl
theorem write_cap (R : RowM) (D : Dsk) (s : List UInt8) : (R.write D s).cap = D.cap := by
  unfold write
  rw [Dsk.cap_write, made_cap]
theorem write_ok {R : RowM} {D : Dsk} (h : R.On D) (hu : D.Ok) (s : List UInt8) : (R.write D s).Ok := (made_size h hu).2.write _ _ _
theorem write_size {R : RowM} {D : Dsk} (h : R.On D) (hu : D.Ok) (s : List UInt8) : (R.write D s).size = D.size + s.length := by
  obtain ⟨f, h1, h2, h3, h4, h5⟩ := write_at h
  obtain ⟨m1, m2⟩ := made_size h hu
  have := Dsk.size_write m2 (s := s) h1 (k := R.fin - R.place R.lastI) (by omega)
  unfold write
  omega
theorem write_waits {R : RowM} {D : Dsk} (h : R.On D) {s : List UInt8} (hs : s ≠ []) : (R.write D s).waits = D.waits ++ [⟨R.name R.lastI, R.fin - R.place R.lastI, s⟩] := by
  obtain ⟨f, h1, _⟩ := write_at h
  unfold write
  rw [Dsk.waits_write h1 hs, made_waits]
theorem write_other {R : RowM} {D : Dsk} (h : R.On D) (s : List UInt8) {n : List UInt8} (hn : ∀ i, n ≠ R.name i) : (R.write D s).file n = D.file n := by
  obtain ⟨f, h1, _⟩ := write_at h
  unfold write
  rw [Dsk.file_write h1, if_neg (hn _)]
  unfold made
  split
  · rw [Dsk.file_create, if_neg (hn _)]
  · rfl
theorem lag_append {R : RowM} {D : Dsk} (h : R.On D) (hl : R.Lag D) {s : List UInt8} (hs : s ≠ []) : (R.append s).Lag (R.write D s) := by
  obtain ⟨f, h1, h2, h3, h4, h5⟩ := write_at h
  have hpos : 0 < s.length := List.length_pos_iff.2 hs
  have hsy := h.ok.synced
  intro q hq
  rw [write_waits h hs] at hq
  rw [fin_append]
  rcases List.mem_append.1 hq with hq | hq
  · obtain ⟨q1, i, q2, q3, q4⟩ := hl q hq
    refine ⟨?_, i, ?_, q3, q4⟩
    · show R.synced < _
      omega
    · show i < (if R.full then R.many + 1 else R.many)
      split <;> omega
  · obtain rfl : q = ⟨R.name R.lastI, R.fin - R.place R.lastI, s⟩ := by simpa using hq
    refine ⟨?_, R.lastI, h5, rfl, ?_⟩
    · show R.synced < _
      omega
    · show R.synced < R.place R.lastI + R.size
      omega
end RowM

end Go.Proofs.YtnacjogdndggeaaGreatDoor
end

section
namespace Go.Proofs.YtnacjogdndggeaaGreatDoor
open Go.Shelf Go.RowKit Go.Lib

def natV (l : List Nat) : List Value := l.map fun n : Nat => .int .i64 (n : Int)

/-- A row in memory, over the disk d. -/
structure RowAt (χ : Col) (c : Nat) (w : World) (r d : Nat) (R : RowM) (pv : Value) : Prop where
  own : CBlk χ c w r #[.pointer (some ⟨d, 0, none⟩), .string (S R.head), .int .i64 R.size, pv, .int .i64 R.fin, .int .i64 R.synced] 129
  row : w.ownsRow 0 3 1 pv R.many (natV R.places)
  crow : ∀ g, pv.ownBlock = some g → χ g = c
def IsRow (χ : Col) (c : Nat) (w : World) (r d : Nat) (R : RowM) : Prop := ∃ pv, RowAt χ c w r d R pv

section
variable {C : Nat → Prop} {χ χ' : Col} {c r d : Nat} {w w' : World} {R : RowM} {pv : Value}
theorem RowAt.stp (h : RowAt χ c w r d R pv) (s : Stp C χ w χ' w') (hc : ¬ C c) : RowAt χ' c w' r d R pv where
  own := h.own.stp s hc
  row := ownsRow_stp h.row s fun g hg => by rw [h.crow g hg]; exact hc
  crow := fun g hg => (s.col _ (h.row.lt g hg).2).trans (h.crow g hg)
theorem IsRow.stp (h : IsRow χ c w r d R) (s : Stp C χ w χ' w') (hc : ¬ C c) : IsRow χ' c w' r d R := by
  obtain ⟨pv, h⟩ := h
  exact ⟨pv, h.stp s hc⟩
theorem IsRow.lt (h : IsRow χ c w r d R) : r < w.heap.size := by
  obtain ⟨pv, h⟩ := h
  exact h.own.1.lt
theorem RowAt.ne (h : RowAt χ c w r d R pv) : pv.ownBlock ≠ some r := h.own.1.ne_row h.row (by decide)
end

/-- How a tape's sizes read. -/
def sizesD (l : List (Int × Nat)) : DataW Unit := amap (Lit.int .i64) (fun _ (n : Nat) => .lit (.int .i64 (n : Int))) l

structure TapeAt (χ : Col) (c cr : Nat) (w : World) (t d : Nat) (T : TapeM) (r g m : Nat) (iv : Value) : Prop where
  own : CBlk χ c w t #[.pointer (some ⟨r, 0, none⟩), .pointer (some ⟨g, 0, none⟩), iv, .map (some m), .int .i64 T.last] 87
  row : IsRow χ cr w r d T.row
  tab : IsTab g w
  ctab : χ g = c
  ids : w.ownsRow 0 3 1 iv T.recs.length (natV T.ids)
  cids : ∀ b, iv.ownBlock = some b → χ b = c
  map : w.ownsMap Tryz.prog 3 (plainElem Tryz.prog 3) m T.recs.length (sizesD T.sizes)
  cmap : χ m = c
def IsTape (χ : Col) (c cr : Nat) (w : World) (t d : Nat) (T : TapeM) : Prop := ∃ r g m iv, TapeAt χ c cr w t d T r g m iv

section
variable {C : Nat → Prop} {χ χ' : Col} {c cr t d : Nat} {w w' : World} {T : TapeM} {r g m : Nat} {iv : Value}
theorem TapeAt.stp (h : TapeAt χ c cr w t d T r g m iv) (s : Stp C χ w χ' w') (hc : ¬ C c) (hr : ¬ C cr) : TapeAt χ' c cr w' t d T r g m iv where
  own := h.own.stp s hc
  row := h.row.stp s hr
  tab := Blk.stp h.tab s (by rw [h.ctab]; exact hc)
  ctab := (s.col _ (Blk.lt h.tab)).trans h.ctab
  ids := ownsRow_stp h.ids s fun b hb => by rw [h.cids b hb]; exact hc
  cids := fun b hb => (s.col _ (h.ids.lt b hb).2).trans (h.cids b hb)
  map := ownsMap_stp h.map s (by rw [h.cmap]; exact hc)
  cmap := (s.col _ h.map.lt).trans h.cmap
theorem IsTape.stp (h : IsTape χ c cr w t d T) (s : Stp C χ w χ' w') (hc : ¬ C c) (hr : ¬ C cr) : IsTape χ' c cr w' t d T := by
  obtain ⟨r, g, m, iv, h⟩ := h
  exact ⟨r, g, m, iv, h.stp s hc hr⟩
end

end Go.Proofs.YtnacjogdndggeaaGreatDoor
end
