/- A region that draws its order and makes memory in two chains: 'append(append([]string{}, l...), string(make([]byte, n)))'. -/
import Derived.Test.YtdiebameocbahaaOcN
import Derived.Test.YtdiebameocbahaaOcS
import Derived.RegionTactic
import Derived.Maps.AppendAt
namespace Go.Proofs.Ytdiebameocbahaa
open Go.Shelf Go.RowKit

/-- One operation of a region, as the orders ask it. -/
def Step (P : Program) (ops : Array Oper) (Q : Exit → Act → World → Prop) (o : Oper) (a : Act) (w : World) (K : Act → World → Prop) : Prop :=
  if Region.wanted o (yielded ops a.tmps) = true then Oper.wp P o a w K Q else K (a.put o.dst undef) w

theorem Step.of_wp {P : Program} {ops : Array Oper} {Q : Exit → Act → World → Prop} {o : Oper} {a : Act} {w : World} {K : Act → World → Prop} (hg : o.guard = none) (h : Oper.wp P o a w K Q) : Step P ops Q o a w K := by
  unfold Step
  rw [if_pos (by simp [Region.wanted, hg])]
  exact h

/-- Two chains, 0 then 2 beside 3, 4, 5 (1 has come up): whatever order comes, from J 0 0 to J 2 3. -/
theorem two_chains {P : Program} {ops : Array Oper} {Q : Exit → Act → World → Prop} (J : Nat → Nat → Act → World → Prop) (o0 o2 o3 o4 o5 : Oper)
    (h0 : ops[0]? = some o0) (h2 : ops[2]? = some o2) (h3 : ops[3]? = some o3) (h4 : ops[4]? = some o4) (h5 : ops[5]? = some o5)
    (r00 : Region.ready .any ops #[false, true, false, false, false, false, false, false] = [0, 3])
    (r10 : Region.ready .any ops #[true, true, false, false, false, false, false, false] = [2, 3])
    (r20 : Region.ready .any ops #[true, true, true, false, false, false, false, false] = [3])
    (r01 : Region.ready .any ops #[false, true, false, true, false, false, false, false] = [0, 4])
    (r11 : Region.ready .any ops #[true, true, false, true, false, false, false, false] = [2, 4])
    (r21 : Region.ready .any ops #[true, true, true, true, false, false, false, false] = [4])
    (r02 : Region.ready .any ops #[false, true, false, true, true, false, false, false] = [0, 5])
    (r12 : Region.ready .any ops #[true, true, false, true, true, false, false, false] = [2, 5])
    (r22 : Region.ready .any ops #[true, true, true, true, true, false, false, false] = [5])
    (r03 : Region.ready .any ops #[false, true, false, true, true, true, false, false] = [0])
    (r13 : Region.ready .any ops #[true, true, false, true, true, true, false, false] = [2])
    (s0 : ∀ j a w K, J 0 j a w → (∀ a' w', J 1 j a' w' → K a' w') → Step P ops Q o0 a w K)
    (s2 : ∀ j a w K, J 1 j a w → (∀ a' w', J 2 j a' w' → K a' w') → Step P ops Q o2 a w K)
    (s3 : ∀ i a w K, J i 0 a w → (∀ a' w', J i 1 a' w' → K a' w') → Step P ops Q o3 a w K)
    (s4 : ∀ i a w K, J i 1 a w → (∀ a' w', J i 2 a' w' → K a' w') → Step P ops Q o4 a w K)
    (s5 : ∀ i a w K, J i 2 a w → (∀ a' w', J i 3 a' w' → K a' w') → Step P ops Q o5 a w K)
    (fin : ∀ a w, J 2 3 a w → wpAny P .any ops Q 2 #[true, true, true, true, true, true, false, false] a w)
    {a : Act} {w : World} (start : J 0 0 a w) : wpAny P .any ops Q 7 #[false, true, false, false, false, false, false, false] a w := by
  have p22 : ∀ a w, J 2 2 a w → wpAny P .any ops Q 3 #[true, true, true, true, true, false, false, false] a w := fun a w h =>
    wpAny_ready r22 (by simp) (AllReady.cons h5 (fun K hK => s5 2 a w K h fun a' w' h' => hK _ _ (fin a' w' h')) AllReady.nil)
  have p13 : ∀ a w, J 1 3 a w → wpAny P .any ops Q 3 #[true, true, false, true, true, true, false, false] a w := fun a w h =>
    wpAny_ready r13 (by simp) (AllReady.cons h2 (fun K hK => s2 3 a w K h fun a' w' h' => hK _ _ (fin a' w' h')) AllReady.nil)
  have p21 : ∀ a w, J 2 1 a w → wpAny P .any ops Q 4 #[true, true, true, true, false, false, false, false] a w := fun a w h =>
    wpAny_ready r21 (by simp) (AllReady.cons h4 (fun K hK => s4 2 a w K h fun a' w' h' => hK _ _ (p22 a' w' h')) AllReady.nil)
  have p12 : ∀ a w, J 1 2 a w → wpAny P .any ops Q 4 #[true, true, false, true, true, false, false, false] a w := fun a w h =>
    wpAny_ready r12 (by simp) (AllReady.cons h2 (fun K hK => s2 2 a w K h fun a' w' h' => hK _ _ (p22 a' w' h')) (AllReady.cons h5 (fun K hK => s5 1 a w K h fun a' w' h' => hK _ _ (p13 a' w' h')) AllReady.nil))
  have p03 : ∀ a w, J 0 3 a w → wpAny P .any ops Q 4 #[false, true, false, true, true, true, false, false] a w := fun a w h =>
    wpAny_ready r03 (by simp) (AllReady.cons h0 (fun K hK => s0 3 a w K h fun a' w' h' => hK _ _ (p13 a' w' h')) AllReady.nil)
  have p20 : ∀ a w, J 2 0 a w → wpAny P .any ops Q 5 #[true, true, true, false, false, false, false, false] a w := fun a w h =>
    wpAny_ready r20 (by simp) (AllReady.cons h3 (fun K hK => s3 2 a w K h fun a' w' h' => hK _ _ (p21 a' w' h')) AllReady.nil)
  have p11 : ∀ a w, J 1 1 a w → wpAny P .any ops Q 5 #[true, true, false, true, false, false, false, false] a w := fun a w h =>
    wpAny_ready r11 (by simp) (AllReady.cons h2 (fun K hK => s2 1 a w K h fun a' w' h' => hK _ _ (p21 a' w' h')) (AllReady.cons h4 (fun K hK => s4 1 a w K h fun a' w' h' => hK _ _ (p12 a' w' h')) AllReady.nil))
  have p02 : ∀ a w, J 0 2 a w → wpAny P .any ops Q 5 #[false, true, false, true, true, false, false, false] a w := fun a w h =>
    wpAny_ready r02 (by simp) (AllReady.cons h0 (fun K hK => s0 2 a w K h fun a' w' h' => hK _ _ (p12 a' w' h')) (AllReady.cons h5 (fun K hK => s5 0 a w K h fun a' w' h' => hK _ _ (p03 a' w' h')) AllReady.nil))
  have p10 : ∀ a w, J 1 0 a w → wpAny P .any ops Q 6 #[true, true, false, false, false, false, false, false] a w := fun a w h =>
    wpAny_ready r10 (by simp) (AllReady.cons h2 (fun K hK => s2 0 a w K h fun a' w' h' => hK _ _ (p20 a' w' h')) (AllReady.cons h3 (fun K hK => s3 1 a w K h fun a' w' h' => hK _ _ (p11 a' w' h')) AllReady.nil))
  have p01 : ∀ a w, J 0 1 a w → wpAny P .any ops Q 6 #[false, true, false, true, false, false, false, false] a w := fun a w h =>
    wpAny_ready r01 (by simp) (AllReady.cons h0 (fun K hK => s0 1 a w K h fun a' w' h' => hK _ _ (p11 a' w' h')) (AllReady.cons h4 (fun K hK => s4 0 a w K h fun a' w' h' => hK _ _ (p02 a' w' h')) AllReady.nil))
  exact wpAny_ready r00 (by simp) (AllReady.cons h0 (fun K hK => s0 0 a w K start fun a' w' h' => hK _ _ (p10 a' w' h')) (AllReady.cons h3 (fun K hK => s3 0 a w K start fun a' w' h' => hK _ _ (p01 a' w' h')) AllReady.nil))

/-! ### the region of OctetTexts -/

theorem put_comm (a : Act) (i j : Nat) (x y : Value) (h : i ≠ j) : (a.put (some i) x).put (some j) y = (a.put (some j) y).put (some i) x := by
  simp only [Act.put]
  rw [Array.setIfInBounds_comm _ _ h]
theorem put_put (a : Act) (i : Nat) (x y : Value) : (a.put (some i) x).put (some i) y = a.put (some i) y := by
  simp [Act.put]
theorem eval_put_same (a : Act) (i : Nat) (x : Value) (h : i < a.tmps.size) : (a.put (some i) x).eval (.tmp i) = x := by
  simp [Act.put, Act.eval, h]
theorem eval_put_ne (a : Act) (i j : Nat) (x : Value) (h : i ≠ j) : (a.put (some i) x).eval (.tmp j) = a.eval (.tmp j) := by
  simp [Act.put, Act.eval, Array.getElem?_setIfInBounds_ne h]

theorem step_build0 {P : Program} {o : Oper} {a : Act} {w : World} {K : Act → World → Prop} {Q : Exit → Act → World → Prop} (hop : o.op = .buildSlice 48 0 #[]) (hP : P = Try.prog)
    (h : K (a.put o.dst (.slice (some ⟨w.heap.size, 0, none⟩) 0 0)) (w.alloc (.cells #[] 9))) : Oper.wp P o a w K Q := by
  subst hP
  unfold Oper.wp
  simp [execOp, hop, go_sem]
  exact h

theorem step_make {o : Oper} {a : Act} {w : World} {K : Act → World → Prop} {Q : Exit → Act → World → Prop} (B n : Nat) (hop : o.op = .makeSlice 67 (.const (.int .i64 n)) (.const (.int .i64 n))) (hn : n ≤ 100000000) (hB : B ≤ w.heap.size)
    (h : ∀ w', w'.ownsRow B 5 1 (.slice (some ⟨w.heap.size, 0, none⟩) n n) n (Lib.byteCells (List.replicate n 0)) → w.grownBy w' none → K (a.put o.dst (.slice (some ⟨w.heap.size, 0, none⟩) n n)) w') : Oper.wp Try.prog o a w K Q := by
  obtain ⟨i0, hi, hz0, hz1, hz2⟩ := info_parts info5
  obtain ⟨w', hrun, r1, r2⟩ := run_make_full (P := Try.prog) w B 67 5 i0 (.int .u8 0) 1 Try.underlying67 hi hz0 hz1 .i64 .i64 n (by rw [hz2]; omega) (by unfold maxLen; omega) hB
  have hc : (madeCells (Value.int IntKind.u8 0).cells (n * 1)).toList = Lib.byteCells (List.replicate n 0) := by
    rw [Nat.mul_one, show (Value.int IntKind.u8 0).cells = #[Value.int IntKind.u8 0] from rfl, toList_madeCells_one]
    simp [Lib.byteCells]
  rw [hc] at r1
  unfold Oper.wp
  simp only [execOp, hop, Act.eval]
  simp [hrun, Result.andThen]
  exact h _ r1 r2

theorem step_conv {o : Oper} {a : Act} {w : World} {K : Act → World → Prop} {Q : Exit → Act → World → Prop} (x : Operand) (v : Value) (l : List UInt8) (n B : Nat) (hop : o.op = .convert 67 9 x) (hx : a.eval x = v)
    (hown : w.ownsRow B 5 1 v n (Lib.byteCells l)) (h : K (a.put o.dst (.string (S l))) w) : Oper.wp Try.prog o a w K Q := by
  have hrun := own_str hown
  unfold Oper.wp
  simp [execOp, hop, hx, hrun, Result.andThen]
  exact h

theorem step_build1 {o : Oper} {a : Act} {w : World} {K : Act → World → Prop} {Q : Exit → Act → World → Prop} (x : Tmp) (s : ByteArray) (hop : o.op = .buildSlice 48 1 #[(0, .tmp x)]) (hx : a.eval (.tmp x) = .string s)
    (h : K (a.put o.dst (.slice (some ⟨w.heap.size, 0, none⟩) 1 1)) (w.alloc (.cells #[.string s] 9))) : Oper.wp Try.prog o a w K Q := by
  have hx' : a.tmps[x]?.getD undef = .string s := by simpa [Act.eval] using hx
  unfold Oper.wp
  simp [execOp, hop, go_sem, hx']
  exact h

/-- The frame of the region: what its slots hold. -/
def fr (a0 : Act) (v50 v52 v53 v54 v55 : Value) : Act := ((((a0.put (some 50) v50).put (some 52) v52).put (some 53) v53).put (some 54) v54).put (some 55) v55
section
variable (a0 : Act) (v50 v52 v53 v54 v55 x : Value)
theorem fr50 : (fr a0 v50 v52 v53 v54 v55).put (some 50) x = fr a0 x v52 v53 v54 v55 := by
  unfold fr
  rw [put_comm _ 55 50 _ _ (by decide), put_comm _ 54 50 _ _ (by decide), put_comm _ 53 50 _ _ (by decide), put_comm _ 52 50 _ _ (by decide), put_put]
theorem fr52 : (fr a0 v50 v52 v53 v54 v55).put (some 52) x = fr a0 v50 x v53 v54 v55 := by
  unfold fr
  rw [put_comm _ 55 52 _ _ (by decide), put_comm _ 54 52 _ _ (by decide), put_comm _ 53 52 _ _ (by decide), put_put]
theorem fr53 : (fr a0 v50 v52 v53 v54 v55).put (some 53) x = fr a0 v50 v52 x v54 v55 := by
  unfold fr
  rw [put_comm _ 55 53 _ _ (by decide), put_comm _ 54 53 _ _ (by decide), put_put]
theorem fr54 : (fr a0 v50 v52 v53 v54 v55).put (some 54) x = fr a0 v50 v52 v53 x v55 := by
  unfold fr
  rw [put_comm _ 55 54 _ _ (by decide), put_put]
theorem fr55 : (fr a0 v50 v52 v53 v54 v55).put (some 55) x = fr a0 v50 v52 v53 v54 x := by
  unfold fr
  rw [put_put]
theorem size_put (a : Act) (i : Nat) (y : Value) : (a.put (some i) y).tmps.size = a.tmps.size := by simp [Act.put]
theorem ev (h : 55 < a0.tmps.size) : (fr a0 v50 v52 v53 v54 v55).eval (.tmp 50) = v50 ∧ (fr a0 v50 v52 v53 v54 v55).eval (.tmp 52) = v52 ∧ (fr a0 v50 v52 v53 v54 v55).eval (.tmp 53) = v53 ∧ (fr a0 v50 v52 v53 v54 v55).eval (.tmp 54) = v54 ∧ (fr a0 v50 v52 v53 v54 v55).eval (.tmp 55) = v55 ∧
    (fr a0 v50 v52 v53 v54 v55).eval (.tmp 51) = a0.eval (.tmp 51) := by
  unfold fr
  refine ⟨?_, ?_, ?_, ?_, ?_, ?_⟩
  · rw [eval_put_ne _ 55 50 _ (by decide), eval_put_ne _ 54 50 _ (by decide), eval_put_ne _ 53 50 _ (by decide), eval_put_ne _ 52 50 _ (by decide), eval_put_same _ _ _ (by omega)]
  · rw [eval_put_ne _ 55 52 _ (by decide), eval_put_ne _ 54 52 _ (by decide), eval_put_ne _ 53 52 _ (by decide), eval_put_same _ _ _ (by simp only [size_put]; omega)]
  · rw [eval_put_ne _ 55 53 _ (by decide), eval_put_ne _ 54 53 _ (by decide), eval_put_same _ _ _ (by simp only [size_put]; omega)]
  · rw [eval_put_ne _ 55 54 _ (by decide), eval_put_same _ _ _ (by simp only [size_put]; omega)]
  · rw [eval_put_same _ _ _ (by simp only [size_put]; omega)]
  · rw [eval_put_ne _ 55 51 _ (by decide), eval_put_ne _ 54 51 _ (by decide), eval_put_ne _ 53 51 _ (by decide), eval_put_ne _ 52 51 _ (by decide), eval_put_ne _ 50 51 _ (by decide)]
end

/-- How far the first chain is. -/
def ChA (B : Nat) (l : List (List UInt8)) (w : World) (v50 v52 : Value) : Nat → Prop
  | 0 => True
  | 1 => IsTexts B v50 [] w
  | _ => IsTexts B v52 l w
/-- How far the second chain is. -/
def ChB (B n : Nat) (z : List UInt8) (w : World) (v53 v54 v55 : Value) : Nat → Prop
  | 0 => True
  | 1 => w.ownsRow B 5 1 v53 n (Lib.byteCells z)
  | 2 => v54 = .string (S z)
  | _ => ∃ g, v55 = .slice (some ⟨g, 0, none⟩) 1 1 ∧ w.heap[g]? = some (.cells #[.string (S z)] 9 (0, 0)) ∧ B ≤ g
/-- The two chains, side by side. -/
def J14 (a0 : Act) (w0 : World) (B n : Nat) (l : List (List UInt8)) (z : List UInt8) (i j : Nat) (a : Act) (w : World) : Prop :=
  ∃ v50 v52 v53 v54 v55, a = fr a0 v50 v52 v53 v54 v55 ∧ ChA B l w v50 v52 i ∧ ChB B n z w v53 v54 v55 j ∧ Below B w0 w ∧ (i = 1 → 3 ≤ j → v50.ownBlock ≠ v55.ownBlock)

theorem ChA.alloc {B : Nat} {l : List (List UInt8)} {w : World} {v50 v52 : Value} {i : Nat} (h : ChA B l w v50 v52 i) (o : Obj) : ChA B l (w.alloc o) v50 v52 i := by
  match i, h with
  | 0, _ => trivial
  | 1, h => exact World.ownsRow.alloc h o
  | i + 2, h => exact World.ownsRow.alloc (w := w) h o
theorem ChA.grown {B : Nat} {l : List (List UInt8)} {w w' : World} {v50 v52 : Value} {i : Nat} (h : ChA B l w v50 v52 i) (hg : w.grownBy w' none) : ChA B l w' v50 v52 i := by
  match i, h with
  | 0, _ => trivial
  | 1, h => exact World.ownsRow.kept (w := w) h hg (by cases v50.ownBlock <;> simp)
  | i + 2, h => exact World.ownsRow.kept (w := w) h hg (by cases v52.ownBlock <;> simp)
theorem ChB.alloc {B n : Nat} {z : List UInt8} {w : World} {v53 v54 v55 : Value} {j : Nat} (h : ChB B n z w v53 v54 v55 j) (o : Obj) : ChB B n z (w.alloc o) v53 v54 v55 j := by
  match j, h with
  | 0, _ => trivial
  | 1, h => exact World.ownsRow.alloc h o
  | 2, h => exact h
  | j + 3, ⟨g, h1, h2, h3⟩ =>
    refine ⟨g, h1, ?_, h3⟩
    rw [Below.heap_alloc _ _ _ (Blk.lt (b := g) h2)]
    exact h2

theorem types_apart {w : World} {B B' k : Nat} {e e' : TypeId} {n n' sz sz' : Nat} {v v' : Value} {xs xs' : List Value} (h : w.ownsRow B e sz v n xs) (h' : w.ownsRow B' e' sz' v' n' xs') (hne : e ≠ e') (h1 : v.ownBlock = some k) (h2 : v'.ownBlock = some k) : False := by
  rcases h.2 with ⟨rfl, _⟩ | ⟨g, cap, cur, rfl, _, hg, _⟩
  · simp [Value.ownBlock] at h1
  · rcases h'.2 with ⟨rfl, _⟩ | ⟨g', cap', cur', rfl, _, hg', _⟩
    · simp [Value.ownBlock] at h2
    · obtain rfl : g = k := by simpa [Value.ownBlock] using h1
      obtain rfl : g' = g := by simpa [Value.ownBlock] using h2
      rw [hg] at hg'
      injection hg' with hg'
      injection hg' with _ ht
      exact hne ht

theorem ChB.grown {B n : Nat} {z : List UInt8} {w w' : World} {v50 v53 v54 v55 : Value} {j : Nat} (h : ChB B n z w v53 v54 v55 j) (hA : IsTexts B v50 [] w) (hg : w.grownBy w' v50.ownBlock) (hs : 3 ≤ j → v50.ownBlock ≠ v55.ownBlock) : ChB B n z w' v53 v54 v55 j := by
  match j, h with
  | 0, _ => trivial
  | 1, h =>
    refine World.ownsRow.kept (w := w) h hg ?_
    cases h1 : v53.ownBlock with
    | none => exact .inl rfl
    | some k =>
      refine .inr (fun h2 => ?_)
      exact types_apart h hA (by decide) h1 h2.symm
  | 2, h => exact h
  | j + 3, ⟨g, h1, h2, h3⟩ =>
    refine ⟨g, h1, ?_, h3⟩
    rw [hg.block g (Blk.lt (b := g) h2) (fun e => hs (by omega) (by rw [h1]; exact e.symm))]
    exact h2

section
variable {ops : Array Oper} {Q : Exit → Act → World → Prop} {a0 : Act} {w0 : World} {B n : Nat} {l : List (List UInt8)} {z : List UInt8} {o : Oper}

theorem j14_s0 (hB : B ≤ w0.heap.size) (hop : o.op = .buildSlice 48 0 #[]) (hd : o.dst = some 50) (hg : o.guard = none) (j : Nat) (a : Act) (w : World) (K : Act → World → Prop)
    (h : J14 a0 w0 B n l z 0 j a w) (hK : ∀ a' w', J14 a0 w0 B n l z 1 j a' w' → K a' w') : Step Try.prog ops Q o a w K := by
  obtain ⟨v50, v52, v53, v54, v55, rfl, hA, hb, hbl, _⟩ := h
  have hsz := Nat.le_trans hB hbl.size
  refine Step.of_wp hg (step_build0 hop rfl ?_)
  rw [hd, fr50]
  refine hK _ _ ⟨_, v52, v53, v54, v55, rfl, World.ownsRow_lit w #[] 0 hsz (by decide) rfl, hb.alloc _, hbl.alloc hsz _, fun _ h3 he => ?_⟩
  obtain ⟨j', rfl⟩ : ∃ j', j = j' + 3 := ⟨j - 3, by omega⟩
  obtain ⟨g, h1, h2, _⟩ := hb
  have := Blk.lt (b := g) h2
  rw [h1] at he
  simp [Value.ownBlock] at he
  omega

theorem j14_s2 (hs : 55 < a0.tmps.size) (hB : B ≤ w0.heap.size) (hop : o.op = .call { callee := .builtin .append, args := #[.tmp 50, .tmp 51], argTypes := #[48, 48] }) (hd : o.dst = some 52) (hg : o.guard = none)
    (A : Option Addr) (c : Nat) (h51 : a0.eval (.tmp 51) = .slice A l.length c) (hr : ∀ w, Below B w0 w → RSa w A l) (hn : A = none → c = 0) (hl : l.length ≤ 1000) (j : Nat) (a : Act) (w : World) (K : Act → World → Prop)
    (h : J14 a0 w0 B n l z 1 j a w) (hK : ∀ a' w', J14 a0 w0 B n l z 2 j a' w' → K a' w') : Step Try.prog ops Q o a w K := by
  obtain ⟨v50, v52, v53, v54, v55, rfl, hA, hb, hbl, hsep⟩ := h
  have hsz := Nat.le_trans hB hbl.size
  obtain ⟨e50, _, _, _, _, e51⟩ := ev a0 v50 v52 v53 v54 v55 hs
  refine Step.of_wp hg (wp_append_texts (.tmp 50) (.tmp 51) hop B v50 [] e50 hA A c l (e51.trans h51) (hr w hbl) hn (by simp; omega) hsz fun v' w' h1 h2 => ?_)
  rw [hd, fr52]
  exact hK _ _ ⟨v50, v', v53, v54, v55, rfl, h1, hb.grown hA h2 (hsep rfl), hbl.grown h2 hsz (fun k hk => (World.ownsRow.lt (w := w) hA k hk).1), fun h => by cases h⟩

theorem j14_s3 (hB : B ≤ w0.heap.size) (hop : o.op = .makeSlice 67 (.const (.int .i64 n)) (.const (.int .i64 n))) (hn : n ≤ 100000000) (hd : o.dst = some 53) (hg : o.guard = none) (hz : z = List.replicate n 0) (i : Nat) (a : Act) (w : World) (K : Act → World → Prop)
    (h : J14 a0 w0 B n l z i 0 a w) (hK : ∀ a' w', J14 a0 w0 B n l z i 1 a' w' → K a' w') : Step Try.prog ops Q o a w K := by
  obtain ⟨v50, v52, v53, v54, v55, rfl, hA, hb, hbl, _⟩ := h
  have hsz := Nat.le_trans hB hbl.size
  refine Step.of_wp hg (step_make B n hop hn hsz fun w' h1 h2 => ?_)
  rw [hd, fr53]
  exact hK _ _ ⟨v50, v52, _, v54, v55, rfl, hA.grown h2, by rw [hz]; exact h1, hbl.grown h2 hsz (by simp), fun _ h => by omega⟩

theorem j14_s4 (hs : 55 < a0.tmps.size) (hop : o.op = .convert 67 9 (.tmp 53)) (hd : o.dst = some 54) (hg : o.guard = none) (i : Nat) (a : Act) (w : World) (K : Act → World → Prop)
    (h : J14 a0 w0 B n l z i 1 a w) (hK : ∀ a' w', J14 a0 w0 B n l z i 2 a' w' → K a' w') : Step Try.prog ops Q o a w K := by
  obtain ⟨v50, v52, v53, v54, v55, rfl, hA, hb, hbl, _⟩ := h
  obtain ⟨_, _, e53, _, _, _⟩ := ev a0 v50 v52 v53 v54 v55 hs
  refine Step.of_wp hg (step_conv (.tmp 53) v53 z n B hop e53 hb ?_)
  rw [hd, fr54]
  exact hK _ _ ⟨v50, v52, v53, _, v55, rfl, hA, rfl, hbl, fun _ h => by omega⟩

theorem j14_s5 (hs : 55 < a0.tmps.size) (hB : B ≤ w0.heap.size) (hop : o.op = .buildSlice 48 1 #[(0, .tmp 54)]) (hd : o.dst = some 55) (hg : o.guard = none) (i : Nat) (a : Act) (w : World) (K : Act → World → Prop)
    (h : J14 a0 w0 B n l z i 2 a w) (hK : ∀ a' w', J14 a0 w0 B n l z i 3 a' w' → K a' w') : Step Try.prog ops Q o a w K := by
  obtain ⟨v50, v52, v53, v54, v55, rfl, hA, hb, hbl, _⟩ := h
  have hsz := Nat.le_trans hB hbl.size
  have hb' : v54 = .string (S z) := hb
  subst hb'
  obtain ⟨_, _, _, e54, _, _⟩ := ev a0 v50 v52 v53 (.string (S z)) v55 hs
  refine Step.of_wp hg (step_build1 54 (S z) hop e54 ?_)
  rw [hd, fr55]
  refine hK _ _ ⟨v50, v52, v53, _, _, rfl, hA.alloc _, ⟨_, rfl, heap_alloc_new w _, hsz⟩, hbl.alloc hsz _, fun h1 _ he => ?_⟩
  subst h1
  have := World.ownsRow.lt (w := w) hA w.heap.size (by rw [he]; rfl)
  omega

/-- The region, whatever order comes: the first's texts, and one behind them, in a slice of the call's own. -/
theorem region14 (hs : 56 < a0.tmps.size) (hB : B ≤ w0.heap.size) (ha : a0 = fr a0 undef undef undef undef undef)
    (A : Option Addr) (c : Nat) (h51 : a0.eval (.tmp 51) = .slice A l.length c) (hr : ∀ w, Below B w0 w → RSa w A l) (hn : A = none → c = 0) (hl : l.length ≤ 1000) (hn8 : n ≤ 100000000) (hz : z = List.replicate n 0)
    (o0 o2 o3 o4 o5 o6 o7 : Oper) (g0 : ops[0]? = some o0) (g2 : ops[2]? = some o2) (g3 : ops[3]? = some o3) (g4 : ops[4]? = some o4) (g5 : ops[5]? = some o5) (g6 : ops[6]? = some o6) (g7 : ops[7]? = some o7)
    (p0 : o0.op = .buildSlice 48 0 #[] ∧ o0.dst = some 50 ∧ o0.guard = none)
    (p2 : o2.op = .call { callee := .builtin .append, args := #[.tmp 50, .tmp 51], argTypes := #[48, 48] } ∧ o2.dst = some 52 ∧ o2.guard = none)
    (p3 : o3.op = .makeSlice 67 (.const (.int .i64 n)) (.const (.int .i64 n)) ∧ o3.dst = some 53 ∧ o3.guard = none)
    (p4 : o4.op = .convert 67 9 (.tmp 53) ∧ o4.dst = some 54 ∧ o4.guard = none)
    (p5 : o5.op = .buildSlice 48 1 #[(0, .tmp 54)] ∧ o5.dst = some 55 ∧ o5.guard = none)
    (p6 : o6.op = .call { callee := .builtin .append, args := #[.tmp 52, .tmp 55], argTypes := #[48, 48] } ∧ o6.dst = some 56 ∧ o6.guard = none)
    (p7 : o7.op = .assign (.tmp 56) ∧ o7.dst = some 10 ∧ o7.guard = none)
    (r00 : Region.ready .any ops #[false, true, false, false, false, false, false, false] = [0, 3])
    (r10 : Region.ready .any ops #[true, true, false, false, false, false, false, false] = [2, 3])
    (r20 : Region.ready .any ops #[true, true, true, false, false, false, false, false] = [3])
    (r01 : Region.ready .any ops #[false, true, false, true, false, false, false, false] = [0, 4])
    (r11 : Region.ready .any ops #[true, true, false, true, false, false, false, false] = [2, 4])
    (r21 : Region.ready .any ops #[true, true, true, true, false, false, false, false] = [4])
    (r02 : Region.ready .any ops #[false, true, false, true, true, false, false, false] = [0, 5])
    (r12 : Region.ready .any ops #[true, true, false, true, true, false, false, false] = [2, 5])
    (r22 : Region.ready .any ops #[true, true, true, true, true, false, false, false] = [5])
    (r03 : Region.ready .any ops #[false, true, false, true, true, true, false, false] = [0])
    (r13 : Region.ready .any ops #[true, true, false, true, true, true, false, false] = [2])
    (r23 : Region.ready .any ops #[true, true, true, true, true, true, false, false] = [6])
    (r6 : Region.ready .any ops #[true, true, true, true, true, true, true, false] = [7])
    (r7 : Region.ready .any ops #[true, true, true, true, true, true, true, true] = [])
    (hfin : ∀ v w' v50 v52 v53 v54 v55, IsTexts B v (l ++ [z]) w' → Below B w0 w' → Q .normal (((fr a0 v50 v52 v53 v54 v55).put (some 56) v).put (some 10) v) w') :
    wpAny Try.prog .any ops Q 7 #[false, true, false, false, false, false, false, false] a0 w0 := by
  refine two_chains (J14 a0 w0 B n l z) o0 o2 o3 o4 o5 g0 g2 g3 g4 g5 r00 r10 r20 r01 r11 r21 r02 r12 r22 r03 r13
    (j14_s0 hB p0.1 p0.2.1 p0.2.2) (j14_s2 (by omega) hB p2.1 p2.2.1 p2.2.2 A c h51 hr hn hl) (j14_s3 hB p3.1 hn8 p3.2.1 p3.2.2 hz) (j14_s4 (by omega) p4.1 p4.2.1 p4.2.2) (j14_s5 (by omega) hB p5.1 p5.2.1 p5.2.2)
    ?_ ⟨undef, undef, undef, undef, undef, ha, trivial, trivial, Below.refl _ _, fun h => by cases h⟩
  rintro a w ⟨v50, v52, v53, v54, v55, rfl, hA, ⟨g, rfl, hg, hBg⟩, hbl, _⟩
  have hsz := Nat.le_trans hB hbl.size
  obtain ⟨_, e52, _, _, e55, _⟩ := ev a0 v50 v52 v53 v54 (.slice (some ⟨g, 0, none⟩) 1 1) (by omega)
  refine wpAny_ready r23 (by simp) (AllReady.cons g6 (fun K hK => Step.of_wp (ops := ops) p6.2.2 ?_) AllReady.nil)
  refine wp_append_texts (.tmp 52) (.tmp 55) p6.1 B v52 l e52 hA (some ⟨g, 0, none⟩) 1 [z] e55 (fun j hj => ⟨g, 0, rfl, ?_⟩) (by simp) (by simp; omega) hsz fun v' w' h1 h2 => ?_
  · obtain rfl : j = 0 := by simpa using hj
    exact (Blk.cell (b := g) hg 0).trans rfl
  · refine hK _ _ (wpAny_ready r6 (by simp) (AllReady.cons g7 (fun K' hK' => Step.of_wp (ops := ops) p7.2.2 ?_) AllReady.nil))
    have hx : ((fr a0 v50 v52 v53 v54 (.slice (some ⟨g, 0, none⟩) 1 1)).put (some 56) v').eval (.tmp 56) = v' := eval_put_same _ _ _ (by unfold fr; simp only [size_put]; omega)
    rw [p6.2.1]
    unfold Oper.wp
    simp only [execOp, p7.1]
    simp [hx]
    rw [Oper.upon_value, p7.2.1]
    exact hK' _ _ (wpAny_done r7 (hfin v' w' _ _ _ _ _ h1 (hbl.grown h2 hsz (fun k hk => (World.ownsRow.lt (w := w) hA k hk).1))) _)

end

end Go.Proofs.Ytdiebameocbahaa
