/- Layer 2 (crc): four, one, Sum. Layer 2 (crc): Sum of one text. Layer 2 (crc): word, Seal. Plain laws on records: what is right, its bytes, and that it comes back from them. -/
import Derived.Test.YtnacjogdndggeaaGreatDoorZ08
import Derived.Deep.Draws
import Derived.Test.YtnacjogdndggeaaGreatDoorZ01
import Derived.Lib.Hide
import Derived.Test.YtnacjogdndggeaaGreatDoorZ07
section
namespace Go.Proofs.YtnacjogdndggeaaGreatDoor
open Go.Shelf Go.RowKit

def oneF (x b : Int) : Int := bits BinOp.xor IntKind.u32 (tabF (bits BinOp.xor IntKind.u8 (x % 256) b).toNat) (x / 256)

set_option maxRecDepth 100000 in
set_option maxHeartbeats 1000000 in
theorem one_any (g : Nat) (x b : Int) (w : World) (hT : IsTab g w) :
    Calls Tryz.prog 192 #[.pointer (some ⟨g, 0, none⟩), .int .u32 x, .int .u8 b] w fun e w' => e = .returned (.int .u32 (oneF x b)) ∧ w = w' := by
  have h0 := bits_lo_u8 .xor (x % 256) b
  have h1 := bits_hi_u8 .xor (x % 256) b
  have c1 : w.cell? ⟨g, (bits BinOp.xor IntKind.u8 (x % 256) b).toNat, none⟩ = some (.int .u32 (tabF (bits BinOp.xor IntKind.u8 (x % 256) b).toNat)) := by rw [hT.cell, cellsOf_at _ _ (by omega)]
  have HF : Hid (oneF x b = bits BinOp.xor IntKind.u32 (tabF (bits BinOp.xor IntKind.u8 (x % 256) b).toNat) (x / 256)) := rfl
  go_enter Tryz.func192, Tryz.ntmps192
  go_wp2
  go_ret
  exact ⟨rfl, rfl⟩

def mixF (x : Int) (b0 b1 b2 b3 : UInt8) : Int := bits BinOp.xor IntKind.u32 x (bits BinOp.or IntKind.u32 (bits BinOp.or IntKind.u32 (bits BinOp.or IntKind.u32 ((b0.toNat : Int) % 4294967296) ((b1.toNat : Int) % 4294967296 * 256 % 4294967296)) ((b2.toNat : Int) % 4294967296 * 65536 % 4294967296)) ((b3.toNat : Int) % 4294967296 * 16777216 % 4294967296))
def fourY (y : Int) : Int := bits BinOp.xor IntKind.u32 (bits BinOp.xor IntKind.u32 (bits BinOp.xor IntKind.u32 (tabF (768 + (bits BinOp.and IntKind.u32 y 255).toNat)) (tabF (512 + (bits BinOp.and IntKind.u32 (y / 256) 255).toNat))) (tabF (256 + (bits BinOp.and IntKind.u32 (y / 65536) 255).toNat))) (tabF (y / 16777216).toNat)

theorem tab_cell {g : Nat} {w : World} (hT : IsTab g w) (j : Nat) (h : j < 1024) : w.cell? ⟨g, j, none⟩ = some (.int .u32 (tabF j)) := by rw [hT.cell, cellsOf_at _ _ h]

set_option maxRecDepth 100000 in
set_option maxHeartbeats 1000000 in
theorem four_any (g : Nat) (x : Int) (s : ByteArray) (w : World) (hT : IsTab g w) (hs0 : 0 < s.size) (hs1 : 1 < s.size) (hs2 : 2 < s.size) (hs3 : 3 < s.size) :
    Calls Tryz.prog 191 #[.pointer (some ⟨g, 0, none⟩), .int .u32 x, .string s] w fun e w' => e = .returned (.int .u32 (fourY (mixF x s[0] s[1] s[2] s[3]))) ∧ ∃ n, w' = w.drewN n := by
  have i1 : (1 : Int) < s.size := by omega
  have i2 : (2 : Int) < s.size := by omega
  have i3 : (3 : Int) < s.size := by omega
  have HM : Hid (mixF x s[0] s[1] s[2] s[3] = bits BinOp.xor IntKind.u32 x (bits BinOp.or IntKind.u32 (bits BinOp.or IntKind.u32 (bits BinOp.or IntKind.u32 ((s[0].toNat : Int) % 4294967296) ((s[1].toNat : Int) % 4294967296 * 256 % 4294967296)) ((s[2].toNat : Int) % 4294967296 * 65536 % 4294967296)) ((s[3].toNat : Int) % 4294967296 * 16777216 % 4294967296))) := rfl
  go_enter Tryz.func191, Tryz.ntmps191
  go_upto_region 1 with (fail)
  go_quiet (fail)
  rw [← HM.out]
  have y0 := bits_lo_u32 .xor x (bits BinOp.or IntKind.u32 (bits BinOp.or IntKind.u32 (bits BinOp.or IntKind.u32 ((s[0].toNat : Int) % 4294967296) ((s[1].toNat : Int) % 4294967296 * 256 % 4294967296)) ((s[2].toNat : Int) % 4294967296 * 65536 % 4294967296)) ((s[3].toNat : Int) % 4294967296 * 16777216 % 4294967296))
  have y1 := bits_hi_u32 .xor x (bits BinOp.or IntKind.u32 (bits BinOp.or IntKind.u32 (bits BinOp.or IntKind.u32 ((s[0].toNat : Int) % 4294967296) ((s[1].toNat : Int) % 4294967296 * 256 % 4294967296)) ((s[2].toNat : Int) % 4294967296 * 65536 % 4294967296)) ((s[3].toNat : Int) % 4294967296 * 16777216 % 4294967296))
  rw [← HM.out] at y0 y1
  clear HM
  obtain ⟨y, hy⟩ : ∃ y, mixF x s[0] s[1] s[2] s[3] = y := ⟨_, rfl⟩
  rw [hy] at y0 y1 ⊢
  have HY := Lib.hid hy
  clear hy
  obtain ⟨a0, a1⟩ := and255 y
  obtain ⟨b0, b1⟩ := and255 (y / 256)
  obtain ⟨d0, d1⟩ := and255 (y / 65536)
  have e0 : 0 ≤ y / 16777216 := by omega
  have e1 : y / 16777216 < 256 := by omega
  have k1 := tab_cell hT (768 + (bits BinOp.and IntKind.u32 y 255).toNat) (by omega)
  have k2 := tab_cell hT (512 + (bits BinOp.and IntKind.u32 (y / 256) 255).toNat) (by omega)
  have k3 := tab_cell hT (256 + (bits BinOp.and IntKind.u32 (y / 65536) 255).toNat) (by omega)
  have k4 := tab_cell hT (y / 16777216).toNat (by omega)
  clear hT y0 y1
  go_wp2
  go_quiet (fail)
  go_wp2
  go_ret
  refine ⟨by rw [HY.out]; rfl, ?_⟩
  exact ⟨_, World.drewN_drewN ..⟩

end Go.Proofs.YtnacjogdndggeaaGreatDoor
end

section
namespace Go.Proofs.YtnacjogdndggeaaGreatDoor
open Go.Shelf Go.RowKit

def sumQ : List UInt8 → Int → Int × List UInt8
  | c0 :: c1 :: c2 :: c3 :: l, x => sumQ l (fourY (mixF x c0 c1 c2 c3))
  | l, x => (x, l)
def sum1 : List UInt8 → Int → Int
  | [], x => x
  | c :: l, x => sum1 l (oneF x c.toNat)

def sumF (l : List UInt8) : Int := wrap64 (bits BinOp.xor IntKind.u32 IntKind.u32.max (sum1 (sumQ l 4294967295).2 (sumQ l 4294967295).1))

set_option maxRecDepth 100000 in
set_option maxHeartbeats 1000000 in
theorem Sum_any (g b : Nat) (l : List UInt8) (w : World) (hT : IsTab g w) (hc : w.cell? ⟨b, 0, none⟩ = some (.string (S l))) (hl : l.length ≤ 100000) :
    Calls Tryz.prog 130 #[.pointer (some ⟨g, 0, none⟩), .slice (some ⟨b, 0, none⟩) 1 1] w fun e w' => e = .returned (.int .i64 (sumF l)) ∧ ∃ n, w' = w.drewN n := by
  go_enter Tryz.func130, Tryz.ntmps130
  go_wp2
  refine wp_loop_rounds 2 ?_
  rw [rounds_succ]
  go_wp2
  go_loopw [5, 7] (fun vx vs wr => ∃ (x : Int) (l' : List UInt8) (n : Nat), vx = .int .u32 x ∧ vs = .string (S l') ∧ wr = w.drewN n ∧ Hid (sumQ l' x = sumQ l 4294967295) ∧ Hid (l'.length ≤ 100000)) (fun _ vs _ => match vs with | .string s => s.size | _ => 0)
  case atStart => exact ⟨_, l, 0, rfl, rfl, rfl, Lib.hid rfl, Lib.hid hl⟩
  case round =>
    obtain ⟨x, l', n, rfl, rfl, rfl, HQ, HL⟩ := hrel
    by_cases h4 : 4 ≤ l'.length
    · obtain ⟨c0, c1, c2, c3, r, rfl⟩ : ∃ c0 c1 c2 c3 r, l' = c0 :: c1 :: c2 :: c3 :: r := by
        match l', h4 with
        | c0 :: c1 :: c2 :: c3 :: r, _ => exact ⟨c0, c1, c2, c3, r, rfl⟩
      have hf := four_any g x (S (c0 :: c1 :: c2 :: c3 :: r)) (w.drewN n) hT (by simp) (by simp) (by simp) (by simp)
      have hlr := HL.out
      simp only [List.length_cons] at hlr
      go_wp2_with (fail)
      refine hf.mono ?_
      rintro e w' ⟨rfl, m, rfl⟩
      clear hf
      go_wp2
      have hx : (S (c0 :: c1 :: c2 :: c3 :: r)).extract 4 (r.length + 1 + 1 + 1 + 1) = S r := by
        have := extract_drop (c0 :: c1 :: c2 :: c3 :: r) 4
        simpa using this
      rw [hx]
      exact ⟨⟨_, r, _, rfl, rfl, rfl, Lib.hid HQ.out, Lib.hid (by omega)⟩, by simp; omega⟩
    · have hq : sumQ l' x = (x, l') := by
        match l', h4 with
        | [], _ => rfl
        | [_], _ => rfl
        | [_, _], _ => rfl
        | [_, _, _], _ => rfl
        | _ :: _ :: _ :: _ :: _, h => simp at h
      have HQ2 := Lib.hid (hq.symm.trans HQ.out)
      have HL2 := Lib.hid h4
      have hl3 : l'.length ≤ 3 := by omega
      have hd : decide ((4 : Int) ≤ l'.length) = false := decide_eq_false (by omega)
      clear HQ hq HL h4
      go_wp2
      go_loopw [5, 30] (fun vx vi wr => ∃ (y : Int) (k n : Nat), k ≤ l'.length ∧ vx = .int .u32 y ∧ vi = .int .i64 k ∧ wr = w.drewN n ∧ Hid (sum1 (l'.drop k) y = sum1 l' x)) (fun _ vi _ => l'.length - (intOf vi).toNat)
      case atStart => exact ⟨_, 0, n, Nat.zero_le _, rfl, rfl, rfl, Lib.hid (by rw [List.drop_zero])⟩
      case round =>
        obtain ⟨y, k, n2, hk, rfl, rfl, rfl, HS⟩ := hrel
        by_cases hlt : k < l'.length
        · have hget : Hid (l'.drop k = l'[k] :: l'.drop (k + 1)) := Lib.hid (List.drop_eq_getElem_cons hlt)
          go_upto_region 13 with (fail)
          have hT2 : IsTab g (w.drewN n2) := hT
          obtain ⟨w2, hw2⟩ : ∃ w2, w.drewN n2 = w2 := ⟨_, rfl⟩
          rw [hw2] at hT2 ⊢
          have HW2 := Lib.hid hw2
          clear hw2
          go_quiet ((go_at_call 192; exact Calls.quiet_of_same ((one_any g _ _ (w2.drewN _) hT2).mono fun _ _ h => ⟨h.1, h.2.symm⟩)))
          go_wp2
          exact ⟨⟨_, k + 1, n2 + nq, hlt, rfl, by go_num, by rw [← HW2.out, World.drewN_drewN], Lib.hid (by rw [← HS.out, hget.out, sum1]; rfl)⟩, by simp [intOf]; omega⟩
        · have hkn : k = l'.length := by omega
          subst hkn
          go_wp2
          rw [rounds_succ]
          go_wp2
          go_ret
          have h1 := HS.out
          rw [List.drop_length] at h1
          refine ⟨ret_int ?_, n2, rfl⟩
          unfold sumF
          rw [← HQ2.out, ← h1]
          rfl

end Go.Proofs.YtnacjogdndggeaaGreatDoor
end

section
namespace Go.Proofs.YtnacjogdndggeaaGreatDoor
open Go.Shelf Go.RowKit

set_option maxRecDepth 100000 in
set_option maxHeartbeats 1000000 in
theorem word_any (n : Int) (w : World) (h0 : 0 ≤ n) (h1 : n < 4294967296) :
    Calls Tryz.prog 129 #[.int .i64 n] w fun e w' => e = .returned (.agg #[.int .u8 (n / 16777216), .int .u8 (n / 65536 % 256), .int .u8 (n / 256 % 256), .int .u8 (n % 256)]) ∧ w' = w.alloc (.cells #[.int .u8 (n / 16777216), .int .u8 (n / 65536 % 256), .int .u8 (n / 256 % 256), .int .u8 (n % 256)] 198) := by
  go_enter Tryz.func129, Tryz.ntmps129
  go_wp2
  have hB := Blk.new w #[.int .u8 (n / 16777216), .int .u8 (n / 65536 % 256), .int .u8 (n / 256 % 256), .int .u8 (n % 256)] 198
  have c0 := hB.cell 0
  have c1 := hB.cell 1
  have c2 := hB.cell 2
  have c3 := hB.cell 3
  refine bodyPost_ret (v := .agg #[.int .u8 (n / 16777216), .int .u8 (n / 65536 % 256), .int .u8 (n / 256 % 256), .int .u8 (n % 256)]) (by simp [results, Tryz.results129, go_sem, c0, c1, c2, c3]) rfl ?_
  exact ⟨rfl, rfl⟩

theorem sumF_eq (l : List UInt8) : sumF l = bits BinOp.xor IntKind.u32 IntKind.u32.max (sum1 (sumQ l 4294967295).2 (sumQ l 4294967295).1) := by
  have h0 := bits_lo_u32 .xor IntKind.u32.max (sum1 (sumQ l 4294967295).2 (sumQ l 4294967295).1)
  have h1 := bits_hi_u32 .xor IntKind.u32.max (sum1 (sumQ l 4294967295).2 (sumQ l 4294967295).1)
  unfold sumF
  exact IntWalk.wrap64_in _ (by omega)
theorem sumF_lo (l : List UInt8) : 0 ≤ sumF l := by rw [sumF_eq]; exact bits_lo_u32 ..
theorem sumF_hi (l : List UInt8) : sumF l < 4294967296 := by
  rw [sumF_eq]
  have h1 := bits_hi_u32 .xor IntKind.u32.max (sum1 (sumQ l 4294967295).2 (sumQ l 4294967295).1)
  omega

/-- A number's four bytes. -/
def wordL (n : Int) : List UInt8 := [UInt8.ofNat (n / 16777216).toNat, UInt8.ofNat (n / 65536 % 256).toNat, UInt8.ofNat (n / 256 % 256).toNat, UInt8.ofNat (n % 256).toNat]
def sealF (l : List UInt8) : List UInt8 := wordL (sumF l) ++ l

theorem IsTab.alloc {g : Nat} {w : World} (h : IsTab g w) (o : Obj) : IsTab g (w.alloc o) := Blk.alloc h o

theorem conv4 {w : World} {b : Nat} {n : Int} {t : TypeId} (h : Blk w b #[.int .u8 (n / 16777216), .int .u8 (n / 65536 % 256), .int .u8 (n / 256 % 256), .int .u8 (n % 256)] t) :
    (convert 199 9 (.slice (some ⟨b, 0, none⟩) 4 4)).run Tryz.prog w = .ok (.string (S (wordL n))) w := by
  have := run_convert_bytes_arg w 199 5 Tryz.underlying199 Tryz.underlying5 b 0 4 4 [n / 16777216, n / 65536 % 256, n / 256 % 256, n % 256] rfl (fun i hi => by
    rw [h.cell]
    match i, hi with
    | 0, _ => rfl
    | 1, _ => rfl
    | 2, _ => rfl
    | 3, _ => rfl) 9 Tryz.underlying9
  rw [this]
  rfl

set_option maxRecDepth 100000 in
set_option maxHeartbeats 1000000 in
theorem Seal_any (g : Nat) (l : List UInt8) (w : World) (hT : IsTab g w) (hl : l.length ≤ 100000) :
    Calls Tryz.prog 119 #[.pointer (some ⟨g, 0, none⟩), .string (S l)] w fun e w' => e = .returned (.string (S (sealF l))) ∧ Below w.heap.size w w' := by
  have n0 := sumF_lo l
  have n1 := sumF_hi l
  have HE : Hid (sealF l = wordL (sumF l) ++ l) := rfl
  have HT := Lib.hid (hT.alloc (.cells #[.string (S l)] 9))
  have HB := Lib.hid ((Below.refl w.heap.size w).alloc (Nat.le_refl _) (.cells #[.string (S l)] 9))
  have HC := Lib.hid ((Blk.new w #[.string (S l)] 9).cell 0)
  go_enter Tryz.func119, Tryz.ntmps119
  go_wp2_with (fail)
  refine (Sum_any g w.heap.size l _ HT.out HC.out hl).mono ?_
  rintro e w2 ⟨rfl, m, rfl⟩
  have HB2 := Lib.hid (HB.out.trans (below_drewN (Below.refl w.heap.size _) m))
  clear HB HC HT
  generalize (w.alloc (.cells #[.string (S l)] 9)).drewN m = w2 at *
  obtain ⟨n, hn⟩ : ∃ n, sumF l = n := ⟨_, rfl⟩
  rw [hn] at n0 n1 HE ⊢
  clear hn
  go_wp2_with (fail)
  refine (word_any n w2 n0 n1).mono ?_
  rintro e w3 ⟨rfl, rfl⟩
  have HB3 := Lib.hid (HB2.out.alloc HB2.out.size (.cells #[.int .u8 (n / 16777216), .int .u8 (n / 65536 % 256), .int .u8 (n / 256 % 256), .int .u8 (n % 256)] 198))
  clear HB2
  generalize w2.alloc (.cells #[.int .u8 (n / 16777216), .int .u8 (n / 65536 % 256), .int .u8 (n / 256 % 256), .int .u8 (n % 256)] 198) = w3 at *
  have hcv := conv4 (Blk.new w3 #[.int .u8 (n / 16777216), .int .u8 (n / 65536 % 256), .int .u8 (n / 256 % 256), .int .u8 (n % 256)] 198)
  have HB4 := Lib.hid (HB3.out.alloc HB3.out.size (.cells #[.int .u8 (n / 16777216), .int .u8 (n / 65536 % 256), .int .u8 (n / 256 % 256), .int .u8 (n % 256)] 198))
  clear HB3 hT
  have hwl : (S (wordL n)).size = 4 := by simp [wordL]
  go_wp2
  go_ret
  exact ⟨by rw [HE.out]; rfl, HB4.out⟩

end Go.Proofs.YtnacjogdndggeaaGreatDoor
end

section
namespace Go.Proofs.YtnacjogdndggeaaGreatDoor
open Go.Shelf Go.RowKit Go.Lib

def tagF (l : List UInt8) : Bool := decide (l = []) || plainF l
/-- May what a message carries be? -/
def carriesF (m : Rec) : Bool :=
  topicF m.topic && decide (0 ≤ m.queue) && decide (m.queue < 3) && decide (0 ≤ m.retry) && decide (m.retry ≤ 4) && tagF m.tag && decide (m.keys.length ≤ 3) && keysF m.keys && decide m.keys.Nodup && decide (m.body.length ≤ 200)
/-- Are two records one? -/
def sameR (a b : Rec) : Bool :=
  decide (a.kind = b.kind) && decide (a.queue = b.queue) && decide (a.due = b.due) && decide (a.retry = b.retry) && decide (a.ref = b.ref) && decide (a.born = b.born) && decide (a.topic = b.topic) && decide (a.tag = b.tag) && decide (a.body = b.body) && decide (a.keys = b.keys)
theorem sameR_iff (a b : Rec) : sameR a b = true ↔ a = b := by
  obtain ⟨a0, a1, a2, a3, a4, a5, a6, a7, a8, a9⟩ := a
  obtain ⟨b0, b1, b2, b3, b4, b5, b6, b7, b8, b9⟩ := b
  simp [sameR, and_assoc]
/-- May a record be? -/
def rightF (m : Rec) : Bool :=
  !(badNum m.due || badNum m.ref || badNum m.born) &&
  (if m.kind = 1 then carriesF m && decide (m.due = 0) && decide (m.ref = 0)
   else if m.kind = 2 ∨ m.kind = 3 then carriesF m
   else if m.kind = 4 then sameR m ⟨4, 0, 0, 0, m.ref, m.born, [], [], [], []⟩
   else if m.kind = 0 then decide (m.body.length ≤ 1024) && decide (m.body = List.replicate m.body.length 0) && sameR m ⟨0, 0, 0, 0, 0, 0, [], [], m.body, []⟩
   else false)

theorem badNum_iff {n : Int} : badNum n = false ↔ 0 ≤ n ∧ n ≤ 1099511627776 := by
  unfold badNum
  simp
theorem plainF_len {l : List UInt8} (h : plainF l = true) : l ≠ [] ∧ l.length ≤ 16 := by
  unfold plainF at h
  simp at h
  exact ⟨h.1.1, h.1.2⟩
theorem trim_len (l p : List UInt8) (h : Lib.hasPrefix l p = true) : l.length = p.length + (Lib.trimPrefix l p).length := by
  unfold Lib.trimPrefix
  rw [if_pos h]
  rw [Lib.hasPrefix] at h
  have := (List.isPrefixOf_iff_prefix.1 h).length_le
  simp
  omega
theorem topicF_len {l : List UInt8} (h : topicF l = true) : l ≠ [] ∧ l.length ≤ 16 := by
  unfold topicF ofF at h
  have key : ∀ p : List UInt8, (Lib.hasPrefix l p && groupF (Lib.trimPrefix l p)) = true → p ≠ [] → p.length ≤ 8 → l ≠ [] ∧ l.length ≤ 16 := by
    intro p hp h0 h8
    rw [Bool.and_eq_true] at hp
    have h1 := trim_len l p hp.1
    have h2 := hp.2
    unfold groupF at h2
    rw [Bool.and_eq_true, decide_eq_true_iff] at h2
    have h3 : p.length ≠ 0 := fun e => h0 (List.eq_nil_of_length_eq_zero e)
    refine ⟨fun e => ?_, by omega⟩
    rw [e] at h1
    simp at h1
    omega
  split at h
  · rename_i hp
    exact key retryL hp (by decide) (by decide)
  · split at h
    · rename_i hp
      exact key deadL hp (by decide) (by decide)
    · exact plainF_len (by simpa using h)
theorem tagF_len {l : List UInt8} (h : tagF l = true) : l.length ≤ 16 := by
  unfold tagF at h
  rw [Bool.or_eq_true, decide_eq_true_iff] at h
  rcases h with rfl | h
  · simp
  · exact (plainF_len h).2
theorem keyF_len {l : List UInt8} (h : keyF l = true) : l.length ≤ 16 := by
  unfold keyF at h
  simp at h
  exact h.1.2

/-- What a right record that is no filler is bounded by. -/
structure Within (m : Rec) : Prop where
  kind : 0 ≤ m.kind ∧ m.kind < 256
  queue : 0 ≤ m.queue ∧ m.queue < 256
  retry : 0 ≤ m.retry ∧ m.retry < 256
  due : 0 ≤ m.due ∧ m.due ≤ 1099511627776
  ref : 0 ≤ m.ref ∧ m.ref ≤ 1099511627776
  born : 0 ≤ m.born ∧ m.born ≤ 1099511627776
  topic : m.topic.length ≤ 16
  tag : m.tag.length ≤ 16
  body : m.body.length ≤ 200
  many : m.keys.length ≤ 3
  keys : AllLe m.keys 16
theorem carries_within {m : Rec} (h : carriesF m = true) : 0 ≤ m.queue ∧ m.queue < 3 ∧ 0 ≤ m.retry ∧ m.retry ≤ 4 ∧ m.topic.length ≤ 16 ∧ m.tag.length ≤ 16 ∧ m.body.length ≤ 200 ∧ m.keys.length ≤ 3 ∧ AllLe m.keys 16 := by
  unfold carriesF at h
  simp only [Bool.and_eq_true, decide_eq_true_iff] at h
  obtain ⟨⟨⟨⟨⟨⟨⟨⟨⟨h1, h2⟩, h3⟩, h4⟩, h5⟩, h6⟩, h7⟩, h8⟩, h9⟩, h10⟩ := h
  exact ⟨h2, h3, h4, h5, (topicF_len h1).2, tagF_len h6, h10, h7, fun s hs => keyF_len (List.all_eq_true.1 h8 s hs)⟩
theorem right_within {m : Rec} (h : rightF m = true) (h0 : m.kind ≠ 0) : Within m := by
  unfold rightF at h
  rw [Bool.and_eq_true, Bool.not_eq_true', Bool.or_eq_false_iff, Bool.or_eq_false_iff] at h
  obtain ⟨⟨⟨b1, b2⟩, b3⟩, h⟩ := h
  have b1 := badNum_iff.1 b1
  have b2 := badNum_iff.1 b2
  have b3 := badNum_iff.1 b3
  split at h
  · rename_i k
    rw [Bool.and_eq_true, Bool.and_eq_true] at h
    obtain ⟨q1, q2, q3, q4, q5, q6, q7, q8, q9⟩ := carries_within h.1.1
    exact ⟨by omega, by omega, by omega, b1, b2, b3, q5, q6, q7, q8, q9⟩
  · split at h
    · rename_i k
      obtain ⟨q1, q2, q3, q4, q5, q6, q7, q8, q9⟩ := carries_within h
      exact ⟨by omega, by omega, by omega, b1, b2, b3, q5, q6, q7, q8, q9⟩
    · split at h
      · have e := (sameR_iff _ _).1 h
        obtain ⟨a0, a1, a2, a3, a4, a5, a6, a7, a8, a9⟩ := m
        simp only [Rec.mk.injEq] at e
        obtain ⟨e0, e1, e2, e3, _, _, e6, e7, e8, e9⟩ := e
        subst e0 e1 e2 e3 e6 e7 e8 e9
        exact ⟨by simp, by simp, by simp, b1, b2, b3, by simp, by simp, by simp, by simp, fun s hs => by simp at hs⟩
      · simp at h

/-- A record's bytes. -/
def putF (m : Rec) : List UInt8 :=
  if m.kind = 0 then (if m.body.length < 3 then [] else fillF m.body.length)
  else 165 :: be 2 (3 + (sealF (insideF m)).length) ++ sealF (insideF m)

/-- The record of what was sealed. -/
def openedF (s : List UInt8) : Rec × Bool :=
  let r0 := numF s 0 1
  let r1 := numF r0.2.1 r0.2.2 1
  let r2 := numF r1.2.1 r1.2.2 1
  let r3 := numF r2.2.1 r2.2.2 6
  let r4 := numF r3.2.1 r3.2.2 6
  let r5 := numF r4.2.1 r4.2.2 6
  let t0 := textF r5.2.1 r5.2.2 16
  let t1 := textF t0.2.1 t0.2.2 16
  let t2 := textF t1.2.1 t1.2.2 200
  let l := listF t2.2.1 t2.2.2 3 16
  let m : Rec := ⟨r0.1, r1.1, r4.1, r2.1, r5.1, r3.1, t0.1, t1.1, t2.1, l.1⟩
  (m, decide (endF l.2.1 l.2.2 = 0) && decide (m.kind ≠ 0) && rightF m)

theorem numF_be (n : Nat) (x : Int) (r : List UInt8) (h1 : 1 ≤ n) (h7 : n ≤ 7) (h0 : 0 ≤ x) (hx : x.toNat < 256 ^ n) : numF (be n x.toNat ++ r) 0 n = (x, r, 0) := by
  unfold numF
  rw [if_neg (by simp), if_neg (by omega), if_neg (by simp; omega)]
  have e1 : (be n x.toNat ++ r).take n = be n x.toNat := by rw [List.take_append_of_le_length (by simp), List.take_of_length_le (by simp)]
  have e2 : (be n x.toNat ++ r).drop n = r := by rw [List.drop_append_of_le_length (by simp), List.drop_of_length_le (by simp), List.nil_append]
  rw [Int.toNat_natCast, e1, e2, num_be_small n _ hx]
  congr 1
  omega

theorem insideF_eq (m : Rec) : insideF m = be 1 m.kind.toNat ++ (be 1 m.queue.toNat ++ (be 1 m.retry.toNat ++ (be 6 m.born.toNat ++ (be 6 m.due.toNat ++ (be 6 m.ref.toNat ++ (textB m.topic ++ (textB m.tag ++ (textB m.body ++ listB m.keys)))))))) := by
  simp [insideF, flatN, textsB]

theorem opened_inside (m : Rec) (h : rightF m = true) (h0 : m.kind ≠ 0) : openedF (insideF m) = (m, true) := by
  have W := right_within h h0
  obtain ⟨kind, queue, due, retry, ref, born, topic, tag, body, keys⟩ := m
  obtain ⟨w0, w1, w2, w3, w4, w5, w6, w7, w8, w9, w10⟩ := W
  simp only at *
  unfold openedF
  rw [insideF_eq]
  simp only
  rw [show (1 : Int) = ((1 : Nat) : Int) from rfl, show (6 : Int) = ((6 : Nat) : Int) from rfl]
  rw [numF_be 1 kind _ (by omega) (by omega) (by omega) (by omega)]
  simp only
  rw [numF_be 1 queue _ (by omega) (by omega) (by omega) (by omega)]
  simp only
  rw [numF_be 1 retry _ (by omega) (by omega) (by omega) (by omega)]
  simp only
  rw [numF_be 6 born _ (by omega) (by omega) (by omega) (by omega)]
  simp only
  rw [numF_be 6 due _ (by omega) (by omega) (by omega) (by omega)]
  simp only
  rw [numF_be 6 ref _ (by omega) (by omega) (by omega) (by omega)]
  simp only
  rw [textF_B topic _ 16 (by omega) (by omega)]
  simp only
  rw [textF_B tag _ 16 (by omega) (by omega)]
  simp only
  rw [textF_B body _ 200 (by omega) (by omega)]
  simp only
  have hl := listF_B keys [] 3 16 16 (by omega) (by omega) (by omega) (by omega) w10
  rw [List.append_nil] at hl
  rw [hl]
  simp only
  rw [h]
  simp [endF, h0]

/-- What was sealed, if it was. -/
def unsealF (s : List UInt8) : List UInt8 × Bool := if s.length < 4 ∨ s.take 4 ≠ wordL (sumF (s.drop 4)) then ([], false) else (s.drop 4, true)
theorem unseal_seal (s : List UInt8) : unsealF (sealF s) = (s, true) := by
  unfold unsealF sealF
  have h1 : (wordL (sumF s)).length = 4 := rfl
  have h2 : (wordL (sumF s) ++ s).take 4 = wordL (sumF s) := by rw [List.take_append_of_le_length (by omega), List.take_of_length_le (by omega)]
  have h3 : (wordL (sumF s) ++ s).drop 4 = s := by rw [List.drop_append_of_le_length (by omega), List.drop_of_length_le (by omega), List.nil_append]
  rw [h2, h3, if_neg]
  simp [h1]
theorem sealF_len (s : List UInt8) : (sealF s).length = 4 + s.length := by
  unfold sealF
  rw [List.length_append]
  rfl

/-- The record of bytes; how many they are; why not. -/
def getF (s : List UInt8) : Rec × Int × Int :=
  let none' (e : Int) : Rec × Int × Int := (⟨0, 0, 0, 0, 0, 0, [], [], [], []⟩, 0, e)
  let r0 := takeF s 0 1
  let r1 := numF r0.2.1 r0.2.2 2
  let r2 := takeF r1.2.1 r1.2.2 (max (r1.1 - 3) 0)
  if r0.1 ≠ [] ∧ r0.1 ≠ [165] ∧ r0.1 ≠ [90] then none' 4
  else if s.length < 3 then none' 3
  else if r1.1 < 3 ∨ (r0.1 = [90] ∧ 1024 < r1.1) then none' 4
  else if r2.2.2 ≠ 0 then none' 3
  else if r0.1 = [90] ∧ r2.1 ≠ List.replicate r2.1.length 0 then none' 4
  else if r0.1 = [90] then (⟨0, 0, 0, 0, 0, 0, [], [], List.replicate r1.1.toNat 0, []⟩, r1.1, 0)
  else if (unsealF r2.1).2 = false then none' 5
  else if (openedF (unsealF r2.1).1).2 = false then none' 4
  else ((openedF (unsealF r2.1).1).1, r1.1, 0)

theorem insideF_len (m : Rec) : (insideF m).length = 28 + m.topic.length + m.tag.length + m.body.length + (textsB m.keys).length := by
  rw [insideF_eq]
  simp [textB_length, listB_length]
  omega
theorem inside_le {m : Rec} (W : Within m) : (insideF m).length ≤ 314 := by
  rw [insideF_len]
  have h1 := textsB_len m.keys 16 W.keys
  have h2 := W.topic
  have h3 := W.tag
  have h4 := W.body
  have h5 := W.many
  omega

theorem get_put (m : Rec) (h : rightF m = true) (h0 : m.kind ≠ 0) (r : List UInt8) : getF (putF m ++ r) = (m, ((putF m).length : Int), 0) := by
  have W := right_within h h0
  have hin := inside_le W
  have hop := opened_inside m h h0
  have hun := unseal_seal (insideF m)
  have hsl := sealF_len (insideF m)
  unfold putF
  rw [if_neg h0]
  generalize sealF (insideF m) = q at *
  have e0 : takeF (165 :: be 2 (3 + q.length) ++ q ++ r) 0 1 = ([165], be 2 (3 + q.length) ++ (q ++ r), 0) := by
    unfold takeF
    rw [if_neg (by simp), if_neg (by omega), if_neg (by simp; omega)]
    simp
  have e1 : numF (be 2 (3 + q.length) ++ (q ++ r)) 0 2 = (((3 + q.length : Nat) : Int), q ++ r, 0) := by
    have := numF_be 2 ((3 + q.length : Nat) : Int) (q ++ r) (by omega) (by omega) (by omega) (by rw [Int.toNat_natCast]; omega)
    rw [Int.toNat_natCast] at this
    exact this
  have e2 : takeF (q ++ r) 0 (max (((3 + q.length : Nat) : Int) - 3) 0) = (q, r, 0) := by
    have : max (((3 + q.length : Nat) : Int) - 3) 0 = (q.length : Int) := by omega
    rw [this]
    unfold takeF
    rw [if_neg (by simp), if_neg (by omega), if_neg (by simp; omega)]
    simp
  unfold getF
  simp only [e0, e1, e2, hun, hop]
  rw [if_neg (by simp), if_neg (by simp <;> omega), if_neg (by simp <;> omega), if_neg (by simp), if_neg (by simp), if_neg (by simp), if_neg (by simp), if_neg (by simp)]
  simp
  omega

theorem putF_len (m : Rec) (h : rightF m = true) (h0 : m.kind ≠ 0) : 35 ≤ (putF m).length ∧ (putF m).length ≤ 321 := by
  have W := right_within h h0
  have hin := inside_le W
  have hil := insideF_len m
  unfold putF
  rw [if_neg h0]
  simp [sealF_len]
  omega

end Go.Proofs.YtnacjogdndggeaaGreatDoor
end
