/- Layer 7: entry.get, and the three Gets: what each comes to. Worlds that differ in a set of blocks alone; a set's growth by new blocks. Plain facts on rising lists of keys with what each holds: how a map reads. Plain facts on a disk: files, and writes that wait. -/
import Derived.Test.YtnacjogdndggeaaGreatDoorZ02
import Derived.Maps.OwnIn
import Derived.Maps.RangeWalk
import Derived.Test.YtnacjogdndggeaaGreatDoorZ01
import Derived.Maps.Ext
section
namespace Go.Proofs.YtnacjogdndggeaaGreatDoor
open Go.Shelf Go.RowKit

/-- A block of cells, whole and not frozen. -/
def Blk (w : World) (b : Nat) (cs : Array Value) (t : TypeId) : Prop := w.heap[b]? = some (.cells cs t (0, 0))
section
variable {w w' : World} {b g : Nat} {cs : Array Value} {t : TypeId}
theorem Blk.cell (h : Blk w b cs t) (j : Nat) : w.cell? ⟨b, j, none⟩ = cs[j]? := by
  unfold World.cell?
  rw [h]
  rfl
theorem Blk.frozen (h : Blk w b cs t) (j : Nat) : w.frozen? ⟨b, j, none⟩ = false := Lib.frozen_of_heap h j
theorem Blk.lt (h : Blk w b cs t) : b < w.heap.size := by
  rcases Nat.lt_or_ge b w.heap.size with h' | h'
  · exact h'
  · unfold Blk at h; simp [Array.getElem?_eq_none h'] at h
theorem Blk.only (h : Blk w b cs t) (ho : Only g w w') (hne : b ≠ g) : Blk w' b cs t := by
  have := h.lt
  unfold Blk at *
  rw [ho.block b this (by simpa using hne)]
  exact h
theorem Blk.below (h : Blk w b cs t) (hb : Below w.heap.size w w') : Blk w' b cs t := by
  have := h.lt
  unfold Blk at *
  rw [hb.block b this]
  exact h
theorem Blk.set_ne (h : Blk w b cs t) {p : Addr} (hne : b ≠ p.block) (v : Value) : Blk (w.setCell p v) b cs t := by
  unfold Blk at *
  rw [heap_setCell_other w p b v hne]
  exact h
theorem Blk.set (h : Blk w b cs t) (i : Nat) (v : Value) : Blk (w.setCell ⟨b, i, none⟩ v) b (cs.setIfInBounds i v) t := heap_setCell_same w b i cs t v h
theorem Blk.new (w : World) (cs : Array Value) (t : TypeId) : Blk (w.alloc (.cells cs t)) w.heap.size cs t := heap_alloc_new w _
theorem Blk.alloc (h : Blk w b cs t) (o : Obj) : Blk (w.alloc o) b cs t := by
  have := h.lt
  unfold Blk at *
  rw [Below.heap_alloc _ _ _ this]
  exact h
theorem IsR.set_ne {g : Nat} {s : List UInt8} {e : Int} (h : IsR g s e w) {p : Addr} (hne : g ≠ p.block) (v : Value) : IsR g s e (w.setCell p v) := by
  unfold IsR at *
  rw [heap_setCell_other w p g v hne]
  exact h
end

/-- Four numbers read one behind the other: what is left, the error, and the numbers. -/
structure G4 where
  x0 : Int
  x1 : Int
  x2 : Int
  x3 : Int
  s : List UInt8
  e : Int
def get4F (s : List UInt8) (n0 n1 n2 n3 : Int) : G4 :=
  let r0 := numF s 0 n0
  let r1 := numF r0.2.1 r0.2.2 n1
  let r2 := numF r1.2.1 r1.2.2 n2
  let r3 := numF r2.2.1 r2.2.2 n3
  ⟨r0.1, r1.1, r2.1, r3.1, r3.2.1, r3.2.2⟩

def Get4Post (s : List UInt8) (p0 p1 p2 p3 : Nat) (n0 n1 n2 n3 : Int) (w : World) (e : Ending) (w' : World) : Prop :=
  e = .returned (.bool (decide (endF (get4F s n0 n1 n2 n3).s (get4F s n0 n1 n2 n3).e = 0))) ∧
  Blk w' p0 #[.int .i64 n0, .int .i64 (get4F s n0 n1 n2 n3).x0] 374 ∧ Blk w' p1 #[.int .i64 n1, .int .i64 (get4F s n0 n1 n2 n3).x1] 374 ∧
  Blk w' p2 #[.int .i64 n2, .int .i64 (get4F s n0 n1 n2 n3).x2] 374 ∧ Blk w' p3 #[.int .i64 n3, .int .i64 (get4F s n0 n1 n2 n3).x3] 374 ∧
  Below p0 w w'

end Go.Proofs.YtnacjogdndggeaaGreatDoor
end

section
namespace Go.Proofs.YtnacjogdndggeaaGreatDoor
open Go.Shelf Go.RowKit

/-- Only blocks of F have turned; new ones may be there. -/
structure Gr (F : Nat → Prop) (w w' : World) : Prop where
  os : w'.os = w.os
  tape : w'.tape = w.tape
  output : w'.output = w.output
  size : w.heap.size ≤ w'.heap.size
  block : ∀ k, k < w.heap.size → ¬ F k → w'.heap[k]? = w.heap[k]?

section
variable {F G : Nat → Prop} {w w' w1 w2 : World}
theorem Gr.refl (F : Nat → Prop) (w : World) : Gr F w w := ⟨rfl, rfl, rfl, Nat.le_refl _, fun _ _ _ => rfl⟩
theorem Gr.of_eq (h : w = w') : Gr F w w' := h ▸ Gr.refl F w
theorem Gr.trans' (h : Gr F w w1) (h' : Gr G w1 w2) (hG : ∀ k, G k → F k ∨ w.heap.size ≤ k) : Gr F w w2 :=
  ⟨h'.os.trans h.os, h'.tape.trans h.tape, h'.output.trans h.output, Nat.le_trans h.size h'.size, fun k hk hF =>
    (h'.block k (Nat.lt_of_lt_of_le hk h.size) (fun hg => by rcases hG k hg with h1 | h1; exact hF h1; omega)).trans (h.block k hk hF)⟩
theorem Gr.trans (h : Gr F w w1) (h' : Gr F w1 w2) : Gr F w w2 := h.trans' h' fun _ => .inl
theorem Gr.mono (h : Gr F w w') (hF : ∀ k, F k → G k ∨ w.heap.size ≤ k) : Gr G w w' := ⟨h.os, h.tape, h.output, h.size, fun k hk hG => h.block k hk fun hf => by
  rcases hF k hf with h1 | h1
  · exact hG h1
  · omega⟩
theorem Gr.of_below (h : Below w.heap.size w w') : Gr F w w' := ⟨h.os, h.tape, h.output, h.size, fun k hk _ => h.block k hk⟩
theorem Gr.of_grown {row : Option Nat} (h : w.grownBy w' row) (hF : ∀ k, row = some k → F k ∨ w.heap.size ≤ k) : Gr F w w' := ⟨h.os, h.tape, h.output, h.size, fun k hk hf => h.block k hk fun e => by
  rcases hF k e.symm with h1 | h1
  · exact hf h1
  · omega⟩
theorem Gr.alloc (h : Gr F w w1) (o : Obj) : Gr F w (w1.alloc o) := h.trans (Gr.of_below ((Below.refl _ _).alloc (Nat.le_refl _) o))
theorem Gr.drew (h : Gr F w w1) : Gr F w w1.drew := ⟨h.os, h.tape, h.output, h.size, h.block⟩
theorem Gr.set (h : Gr F w w1) {p : Addr} (hp : F p.block ∨ w.heap.size ≤ p.block) (v : Value) : Gr F w (w1.setCell p v) :=
  h.trans' (G := fun k => k = p.block) ⟨rfl, rfl, rfl, by simp, fun k _ hk => heap_setCell_other w1 p k v hk⟩ fun k e => e ▸ hp
theorem Gr.to_below {B : Nat} {w0 : World} (h : Below B w0 w) (hg : Gr F w w') (hF : ∀ k, F k → B ≤ k) (hs : B ≤ w.heap.size) : Below B w0 w' :=
  ⟨hg.os.trans h.os, hg.tape.trans h.tape, hg.output.trans h.output, Nat.le_trans h.size hg.size, fun k hk => (hg.block k (Nat.lt_of_lt_of_le hk hs) (fun hf => by have := hF k hf; omega)).trans (h.block k hk)⟩
theorem Gr.below (h : Gr (fun _ => False) w w') : Below w.heap.size w w' := ⟨h.os, h.tape, h.output, h.size, fun k hk => h.block k hk (fun h => h)⟩
theorem Gr.below' (h : Gr F w w') (hF : ∀ k, F k → w.heap.size ≤ k) : Below w.heap.size w w' := ⟨h.os, h.tape, h.output, h.size, fun k hk => h.block k hk (fun h => by have := hF k h; omega)⟩

variable {b g : Nat} {cs : Array Value} {t : TypeId}
theorem Blk.gr (h : Blk w b cs t) (hg : Gr F w w') (hb : ¬ F b) : Blk w' b cs t := by
  have := h.lt
  unfold Blk at *
  rw [hg.block b this hb]
  exact h
theorem IsR.gr {s : List UInt8} {e : Int} (h : IsR g s e w) (hg : Gr F w w') (hb : ¬ F g) : IsR g s e w' := by
  have := h.lt
  unfold IsR at *
  rw [hg.block g this hb]
  exact h
end

section
variable {F : Nat → Prop} {w w' : World} {H : Type} {P : Program} {k : TypeId} {R : Value → Option (DataW H × List MemPlace)} {b n : Nat} {D : DataW H}
theorem ownsMap_gr (h : w.ownsMap P k R b n D) (hg : Gr F w w') (hb : ¬ F b) : w'.ownsMap P k R b n D := by
  have hlt := h.lt
  obtain ⟨es, clock, hb', F', hs, hD⟩ := h
  exact ⟨es, clock, (hg.block b hlt hb).trans hb', F', hs, hD⟩
theorem ownsRow_gr {base : Nat} {e : TypeId} {size : Nat} {v : Value} {n : Nat} {xs : List Value} (h : w.ownsRow base e size v n xs) (hg : Gr F w w') (hb : ∀ k, v.ownBlock = some k → ¬ F k) : w'.ownsRow base e size v n xs := by
  have hlt := h.lt
  obtain ⟨hl, h | ⟨g, cap, cur, rfl, h1, h2, h3, h4, h5, h6⟩⟩ := h
  · exact ⟨hl, .inl h⟩
  · exact ⟨hl, .inr ⟨g, cap, cur, rfl, h1, (hg.block g (hlt g rfl).2 (hb g rfl)).trans h2, h3, h4, h5, h6⟩⟩
end

end Go.Proofs.YtnacjogdndggeaaGreatDoor
end

section
namespace Go.Proofs.YtnacjogdndggeaaGreatDoor

section
variable {κ α : Type} (kf : κ → Lit)

/-- Laid in at its place. -/
def ains (x : κ × α) : List (κ × α) → List (κ × α)
  | [] => [x]
  | y :: r => if (kf x.1).before (kf y.1) then x :: y :: r else y :: ains x r
/-- How it reads. -/
def amap {H : Type} (f : κ → α → DataW H) (l : List (κ × α)) : DataW H := .map (l.map fun p => (kf p.1, f p.1 p.2))
/-- A sum over all. -/
def asum (g : α → Nat) (l : List (κ × α)) : Nat := (l.map fun p => g p.2).sum
/-- No key twice. -/
def Uni (l : List (κ × α)) : Prop := l.Pairwise fun p q => p.1 ≠ q.1
theorem uni_of_keys {l : List (κ × α)} : Uni l ↔ (l.map (·.1)).Pairwise (· ≠ ·) := by
  unfold Uni
  rw [List.pairwise_map]

variable {kf}
theorem map_ains {H : Type} (f : κ → α → DataW H) (x : κ × α) : ∀ l : List (κ × α), (ains kf x l).map (fun p => (kf p.1, f p.1 p.2)) = DataW.insert (kf x.1, f x.1 x.2) (l.map fun p => (kf p.1, f p.1 p.2))
  | [] => rfl
  | y :: r => by
    unfold ains
    rw [List.map_cons]
    unfold DataW.insert
    split
    · rfl
    · rw [List.map_cons, map_ains f x r]
theorem mem_ains {x p : κ × α} : ∀ {l : List (κ × α)}, p ∈ ains kf x l ↔ p = x ∨ p ∈ l
  | [] => by simp [ains]
  | y :: r => by
    unfold ains
    split
    · simp
    · simp only [List.mem_cons, mem_ains (l := r)]
      constructor
      · rintro (h | h | h)
        · exact .inr (.inl h)
        · exact .inl h
        · exact .inr (.inr h)
      · rintro (h | h | h)
        · exact .inr (.inl h)
        · exact .inl h
        · exact .inr (.inr h)
theorem uni_ains {x : κ × α} : ∀ {l : List (κ × α)}, Uni l → (∀ p ∈ l, p.1 ≠ x.1) → Uni (ains kf x l)
  | [], _, _ => List.pairwise_singleton _ _
  | y :: r, hu, h => by
    obtain ⟨h1, h2⟩ := List.pairwise_cons.1 hu
    unfold ains
    split
    · exact List.pairwise_cons.2 ⟨fun q hq e => h q hq e.symm, hu⟩
    · refine List.pairwise_cons.2 ⟨fun q hq => ?_, uni_ains h2 fun p hp => h p (List.mem_cons_of_mem _ hp)⟩
      rcases mem_ains.1 hq with e | hq
      · subst e
        exact h y List.mem_cons_self
      · exact h1 q hq
theorem asum_ains (g : α → Nat) (x : κ × α) : ∀ l : List (κ × α), asum g (ains kf x l) = g x.2 + asum g l
  | [] => rfl
  | y :: r => by
    have ih := asum_ains g x r
    unfold ains
    unfold asum at *
    split
    · simp
    · simp only [List.map_cons, List.sum_cons, ih]
      omega
/-- The keys of a map as it reads rise: so no key stands twice. -/
theorem uni_of_canon {H : Type} (f : κ → α → DataW H) (l : List (κ × α)) (hc : Maps.Canon (amap kf f l)) : Uni l := by
  obtain ⟨es, he, hp, _⟩ := hc
  unfold amap at he
  injection he with he
  subst he
  rw [List.pairwise_map] at hp
  exact hp.imp fun {a b} h e => by
    rw [e, WideShapes.before_irrefl] at h
    cases h
theorem rises_of_canon {H : Type} (f : κ → α → DataW H) (l : List (κ × α)) (hc : Maps.Canon (amap kf f l)) : l.Pairwise fun p q => (kf p.1).before (kf q.1) = true := by
  obtain ⟨es, he, hp, _⟩ := hc
  unfold amap at he
  injection he with he
  subst he
  rw [List.pairwise_map] at hp
  exact hp
end

section
variable {κ α : Type} [DecidableEq κ] (kf : κ → Lit)

/-- Without a key. -/
def adel (k : κ) (l : List (κ × α)) : List (κ × α) := l.filter fun p => !decide (p.1 = k)
/-- With a key. -/
def aput (k : κ) (a : α) (l : List (κ × α)) : List (κ × α) := ains kf (k, a) (adel k l)
/-- What a key holds. -/
def aget (l : List (κ × α)) (k : κ) : Option α := (l.find? fun p => decide (p.1 = k)).map (·.2)
/-- With another thing at a key that is there. -/
def amod (k : κ) (a : α) (l : List (κ × α)) : List (κ × α) := l.map fun p => if p.1 = k then (p.1, a) else p

/-- Keys are told apart. -/
structure Kf : Prop where
  key : ∀ k, WideAt.IsKeyLit (kf k)
  inj : ∀ a b, kf a = kf b → a = b

variable {kf}
theorem Kf.same (h : Kf kf) (a b : κ) : (kf a).sameKey (kf b) = decide (a = b) := by
  by_cases e : a = b
  · subst e
    rw [WideAt.sameKey_self (h.key a)]
    simp
  · rw [Maps.sameKey_ne fun e' => e (h.inj _ _ e')]
    simp [e]

variable {H : Type} (f : κ → α → DataW H)
theorem map_adel (h : Kf kf) (k : κ) (l : List (κ × α)) : (adel k l).map (fun p => (kf p.1, f p.1 p.2)) = (l.map fun p => (kf p.1, f p.1 p.2)).filter fun p => !p.1.sameKey (kf k) := by
  unfold adel
  rw [List.filter_map]
  congr 1
  apply List.filter_congr
  intro p _
  show _ = !(kf p.1).sameKey (kf k)
  rw [h.same]

theorem amap_put (h : Kf kf) (k : κ) (a : α) (l : List (κ × α)) : (amap kf f l).put (kf k) (f k a) = amap kf f (aput kf k a l) := by
  unfold amap aput
  rw [map_ains, map_adel f h]
  rfl
theorem amap_del (h : Kf kf) (k : κ) (l : List (κ × α)) : (amap kf f l).del (kf k) = amap kf f (adel k l) := by
  unfold amap
  rw [map_adel f h]
  rfl
theorem amap_atKey (h : Kf kf) (k : κ) (z : DataW H) : ∀ l : List (κ × α), (amap kf f l).atKey (kf k) z = match aget l k with | some a => f k a | none => z
  | [] => rfl
  | y :: r => by
    have ih := amap_atKey h k z r
    unfold amap aget DataW.atKey at *
    simp only [List.map_cons, List.find?_cons, h.same] at *
    by_cases e : y.1 = k
    · subst e
      simp
    · simp only [e, decide_false]
      exact ih
theorem amap_has (h : Kf kf) (k : κ) : ∀ l : List (κ × α), Maps.has (amap kf f l) (kf k) = (aget l k).isSome
  | [] => rfl
  | y :: r => by
    have ih := amap_has h k r
    unfold amap aget Maps.has at *
    simp only [List.map_cons, List.find?_cons, List.any_cons, h.same] at *
    by_cases e : y.1 = k
    · subst e
      simp
    · simp only [e, decide_false, Bool.false_or]
      exact ih

theorem aget_nil (k : κ) : aget ([] : List (κ × α)) k = none := rfl
theorem aget_cons (k : κ) (y : κ × α) (l : List (κ × α)) : aget (y :: l) k = if y.1 = k then some y.2 else aget l k := by
  unfold aget
  rw [List.find?_cons]
  by_cases e : y.1 = k <;> simp [e]
theorem aget_mem {l : List (κ × α)} {k : κ} {a : α} (h : aget l k = some a) : (k, a) ∈ l := by
  induction l with
  | nil => cases h
  | cons y r ih =>
    rw [aget_cons] at h
    split at h
    · rename_i e
      injection h with h
      subst e h
      exact List.mem_cons_self
    · exact List.mem_cons_of_mem _ (ih h)
theorem aget_none {l : List (κ × α)} {k : κ} : aget l k = none ↔ ∀ p ∈ l, p.1 ≠ k := by
  induction l with
  | nil => simp [aget_nil]
  | cons y r ih =>
    rw [aget_cons]
    by_cases e : y.1 = k
    · simp [e]
    · simp [e, ih]
theorem aget_of_mem {l : List (κ × α)} (hu : Uni l) {k : κ} {a : α} (h : (k, a) ∈ l) : aget l k = some a := by
  induction l with
  | nil => cases h
  | cons y r ih =>
    obtain ⟨h1, h2⟩ := List.pairwise_cons.1 hu
    rw [aget_cons]
    rcases List.mem_cons.1 h with e | h
    · subst e
      simp
    · rw [if_neg (h1 _ h)]
      exact ih h2 h
theorem mem_adel {k : κ} {p : κ × α} {l : List (κ × α)} : p ∈ adel k l ↔ p ∈ l ∧ p.1 ≠ k := by
  simp [adel]
theorem mem_aput {k : κ} {a : α} {p : κ × α} {l : List (κ × α)} : p ∈ aput kf k a l ↔ p = (k, a) ∨ (p ∈ l ∧ p.1 ≠ k) := by
  rw [aput, mem_ains, mem_adel]
theorem aget_ains_other {x : κ × α} {k : κ} (e : x.1 ≠ k) : ∀ l : List (κ × α), aget (ains kf x l) k = aget l k
  | [] => by simp [ains, aget_cons, e]
  | y :: r => by
    unfold ains
    split
    · rw [aget_cons, if_neg e]
    · rw [aget_cons, aget_cons, aget_ains_other e r]
theorem aget_adel_other {k m : κ} (e : m ≠ k) : ∀ l : List (κ × α), aget (adel k l) m = aget l m
  | [] => rfl
  | y :: r => by
    have ih := aget_adel_other e r
    unfold adel at *
    rw [List.filter_cons]
    by_cases h : y.1 = k
    · have h2 : y.1 ≠ m := fun e2 => e (e2.symm.trans h)
      simp only [h, decide_true, Bool.not_true, Bool.false_eq_true, if_false]
      rw [ih, aget_cons, if_neg h2]
    · simp only [h, decide_false, Bool.not_false, if_true]
      rw [aget_cons, aget_cons, ih]
theorem aget_adel_same (k : κ) (l : List (κ × α)) : aget (adel k l) k = none := aget_none.2 fun _ hp => (mem_adel.1 hp).2
theorem aget_ains_same {x : κ × α} : ∀ {l : List (κ × α)}, (∀ p ∈ l, p.1 ≠ x.1) → aget (ains kf x l) x.1 = some x.2
  | [], _ => by simp [ains, aget_cons]
  | y :: r, h => by
    unfold ains
    split
    · rw [aget_cons, if_pos rfl]
    · rw [aget_cons, if_neg (h y List.mem_cons_self), aget_ains_same fun p hp => h p (List.mem_cons_of_mem _ hp)]
theorem aget_aput_same (k : κ) (a : α) (l : List (κ × α)) : aget (aput kf k a l) k = some a := aget_ains_same (x := (k, a)) fun _ hp => (mem_adel.1 hp).2
theorem aget_aput_other {k m : κ} (e : m ≠ k) (a : α) (l : List (κ × α)) : aget (aput kf k a l) m = aget l m := by
  rw [aput, aget_ains_other (x := (k, a)) (fun h => e h.symm), aget_adel_other e]
theorem aget_aput (k m : κ) (a : α) (l : List (κ × α)) : aget (aput kf k a l) m = if m = k then some a else aget l m := by
  by_cases e : m = k
  · subst e
    rw [aget_aput_same, if_pos rfl]
  · rw [aget_aput_other e, if_neg e]
theorem aget_adel (k m : κ) (l : List (κ × α)) : aget (adel k l) m = if m = k then none else aget l m := by
  by_cases e : m = k
  · subst e
    rw [aget_adel_same, if_pos rfl]
  · rw [aget_adel_other e, if_neg e]
theorem aget_amod (k m : κ) (a : α) : ∀ l : List (κ × α), aget (amod k a l) m = if m = k then (aget l k).map (fun _ => a) else aget l m
  | [] => by simp [amod, aget_nil]
  | y :: r => by
    have ih := aget_amod k m a r
    unfold amod at *
    rw [List.map_cons]
    by_cases h : y.1 = k
    · simp only [h, if_true]
      rw [aget_cons, aget_cons, aget_cons]
      simp only [h, if_true]
      by_cases e : m = k
      · subst e
        simp
      · have e2 : k ≠ m := fun h => e h.symm
        rw [if_neg e2, if_neg e2, if_neg e, ih, if_neg e]
    · simp only [h, if_false]
      rw [aget_cons, aget_cons, aget_cons, ih]
      simp only [h, if_false]
      by_cases e : m = k
      · subst e
        simp [h]
      · simp [e]
theorem amod_keys (k : κ) (a : α) (l : List (κ × α)) : (amod k a l).map (·.1) = l.map (·.1) := by
  unfold amod
  rw [List.map_map]
  apply List.map_congr_left
  intro p _
  show (if p.1 = k then (p.1, a) else p).1 = p.1
  split <;> rfl
theorem mem_amod {k : κ} {a : α} {p : κ × α} {l : List (κ × α)} (h : p ∈ amod k a l) : (p = (k, a) ∧ ∃ q ∈ l, q.1 = k) ∨ (p ∈ l ∧ p.1 ≠ k) := by
  unfold amod at h
  obtain ⟨q, hq, e⟩ := List.mem_map.1 h
  split at e
  · rename_i h1
    subst e h1
    exact .inl ⟨rfl, q, hq, rfl⟩
  · rename_i h1
    subst e
    exact .inr ⟨hq, h1⟩
theorem map_key_amod {β : Type} (g : κ → β) (k : κ) (a : α) (l : List (κ × α)) : (amod k a l).map (fun p => g p.1) = l.map fun p => g p.1 := by
  have := congrArg (List.map g) (amod_keys k a l)
  rw [List.map_map, List.map_map] at this
  exact this

theorem Uni.amod {l : List (κ × α)} (h : Uni l) (k : κ) (a : α) : Uni (amod k a l) := by
  rw [uni_of_keys] at *
  rw [amod_keys]
  exact h
theorem Uni.adel {l : List (κ × α)} (h : Uni l) (k : κ) : Uni (adel k l) := List.Pairwise.filter _ h
theorem Uni.aput {l : List (κ × α)} (h : Uni l) (k : κ) (a : α) : Uni (aput kf k a l) := uni_ains (h.adel k) fun _ hp => (mem_adel.1 hp).2

theorem asum_adel (g : α → Nat) (k : κ) : ∀ l : List (κ × α), Uni l → asum g (adel k l) + ((aget l k).map g).getD 0 = asum g l
  | [], _ => rfl
  | y :: r, hu => by
    obtain ⟨h1, h2⟩ := List.pairwise_cons.1 hu
    have ih := asum_adel g k r h2
    unfold adel asum at *
    rw [List.filter_cons, aget_cons]
    by_cases h : y.1 = k
    · have hn : aget r k = none := aget_none.2 fun p hp e => h1 p hp (h.trans e.symm)
      simp only [h, decide_true, Bool.not_true, Bool.false_eq_true, if_false, if_true, Option.map_some, Option.getD_some, List.map_cons, List.sum_cons]
      rw [hn] at ih
      simp only [Option.map_none, Option.getD_none] at ih
      omega
    · simp only [h, decide_false, Bool.not_false, if_true, if_false, List.map_cons, List.sum_cons]
      omega
theorem asum_aput (g : α → Nat) (k : κ) (a : α) (l : List (κ × α)) (hu : Uni l) : asum g (aput kf k a l) + ((aget l k).map g).getD 0 = asum g l + g a := by
  rw [aput, asum_ains]
  have := asum_adel g k l hu
  show g a + _ + _ = _
  omega
theorem asum_amod (g : α → Nat) (k : κ) (a : α) : ∀ l : List (κ × α), Uni l → ∀ b, aget l k = some b → asum g (amod k a l) + g b = asum g l + g a
  | [], _, b, h => by cases h
  | y :: r, hu, b, h => by
    obtain ⟨h1, h2⟩ := List.pairwise_cons.1 hu
    rw [aget_cons] at h
    unfold amod asum at *
    by_cases e : y.1 = k
    · rw [if_pos e] at h
      injection h with h
      have hr : r.map (fun p => if p.1 = k then (p.1, a) else p) = r := by
        conv => rhs; rw [← List.map_id r]
        apply List.map_congr_left
        intro p hp
        rw [if_neg fun e2 => h1 p hp (e.trans e2.symm)]
        rfl
      simp only [List.map_cons, List.sum_cons, e, if_true, hr, ← h]
      omega
    · rw [if_neg e] at h
      have ih := asum_amod g k a r h2 b h
      unfold amod asum at ih
      simp only [List.map_cons, List.sum_cons, e, if_false]
      omega

end

section
variable {κ α : Type} {kf : κ → Lit}
/-- A sum over what is no longer to come. -/
def asumL (kf : κ → Lit) (g : α → Nat) (left : Lit → Bool) (l : List (κ × α)) : Nat := (l.map fun p => if left (kf p.1) then 0 else g p.2).sum
theorem asumL_none (g : α → Nat) {left : Lit → Bool} : ∀ {l : List (κ × α)}, (∀ p ∈ l, left (kf p.1) = true) → asumL kf g left l = 0
  | [], _ => rfl
  | y :: r, h => by
    have ih := asumL_none g (left := left) (l := r) fun p hp => h p (List.mem_cons_of_mem _ hp)
    unfold asumL at *
    rw [List.map_cons, List.sum_cons, if_pos (h y List.mem_cons_self), ih]
theorem asumL_all (g : α → Nat) {left : Lit → Bool} (h : ∀ k, left k = false) (l : List (κ × α)) : asumL kf g left l = asum g l := by
  unfold asumL asum
  congr 1
  apply List.map_congr_left
  intro p _
  rw [if_neg (by rw [h]; decide)]
theorem asumL_step [DecidableEq κ] (hk : Kf kf) (g : α → Nat) (left F : Lit → Bool) (k : κ) (hl : left (kf k) = true) (hF : ∀ z, F z = (left z && !z.sameKey (kf k))) : ∀ (l : List (κ × α)), Uni l → ∀ a, aget l k = some a → asumL kf g F l = asumL kf g left l + g a
  | [], _, a, h => by cases h
  | y :: r, hu, a, h => by
    obtain ⟨h1, h2⟩ := List.pairwise_cons.1 hu
    rw [aget_cons] at h
    unfold asumL
    rw [List.map_cons, List.map_cons, List.sum_cons, List.sum_cons]
    by_cases e : y.1 = k
    · rw [if_pos e] at h
      injection h with h
      have hr : r.map (fun p => if F (kf p.1) = true then 0 else g p.2) = r.map fun p => if left (kf p.1) = true then 0 else g p.2 := by
        apply List.map_congr_left
        intro p hp
        have : F (kf p.1) = left (kf p.1) := by
          rw [hF, hk.same, decide_eq_false (fun e2 => h1 p hp (e.trans e2.symm))]
          simp
        rw [this]
      have e1 : F (kf y.1) = false := by
        rw [hF, e, hk.same]
        simp
      have e2 : left (kf y.1) = true := by rw [e, hl]
      rw [hr, e1, e2]
      simp [h]
      omega
    · rw [if_neg e] at h
      have ih := asumL_step hk g left F k hl hF r h2 a h
      unfold asumL at ih
      have e1 : F (kf y.1) = left (kf y.1) := by
        rw [hF, hk.same, decide_eq_false e]
        simp
      rw [ih, e1]
      omega
theorem asumL_le (g : α → Nat) (left : Lit → Bool) : ∀ l : List (κ × α), asumL kf g left l ≤ asum g l
  | [] => Nat.le_refl _
  | y :: r => by
    have ih := asumL_le g left r
    unfold asumL asum at *
    rw [List.map_cons, List.map_cons, List.sum_cons, List.sum_cons]
    split <;> omega
end

/-- Keys that are texts, and keys that are whole numbers. -/
theorem kfS : Kf (Lit.string) := ⟨fun _ => trivial, fun _ _ h => by injection h⟩
theorem kfI : Kf (Lit.int .i64) := ⟨fun _ => trivial, fun _ _ h => by injection h⟩

theorem adel_none {κ α : Type} [DecidableEq κ] {k : κ} {l : List (κ × α)} (h : ∀ p ∈ l, p.1 ≠ k) : adel k l = l :=
  List.filter_eq_self.2 fun p hp => by simp [h p hp]
/-- A key above all others goes to the end. -/
theorem aput_last {α : Type} {k : Int} (a : α) {l : List (Int × α)} (h : ∀ p ∈ l, p.1 < k) : aput (Lit.int .i64) k a l = l ++ [(k, a)] := by
  unfold aput
  rw [adel_none fun p hp e => by have := h p hp; omega]
  induction l with
  | nil => rfl
  | cons y r ih =>
    have h1 := h y List.mem_cons_self
    unfold ains
    rw [if_neg (by show ¬ decide (k < y.1) = true; simp; omega), ih fun p hp => h p (List.mem_cons_of_mem _ hp)]
    rfl

end Go.Proofs.YtnacjogdndggeaaGreatDoor
end

section
namespace Go.Proofs.YtnacjogdndggeaaGreatDoor

/-- A file: its image, and its bytes with all writes done. -/
structure FileC where
  image : List UInt8
  now : List UInt8
/-- A write that waits. -/
structure WaitC where
  name : List UInt8
  pos : Nat
  s : List UInt8
/-- A disk whose fuse was never laid. -/
structure Dsk where
  files : List (List UInt8 × FileC)
  waits : List WaitC
  cap : Nat

/-- Bytes with others laid over them. -/
def lay (b : List UInt8) (at' : Nat) (s : List UInt8) : List UInt8 :=
  if s = [] then b else (b ++ List.replicate (at' + s.length - b.length) 0).take at' ++ s ++ b.drop (at' + s.length)

theorem lay_nil (b : List UInt8) (k : Nat) : lay b k [] = b := by simp [lay]
theorem lay_in {b : List UInt8} {k : Nat} (s : List UInt8) (h : k ≤ b.length) : lay b k s = b.take k ++ s ++ b.drop (k + s.length) := by
  unfold lay
  split
  · rename_i e
    subst e
    simp
  · rw [List.take_append_of_le_length h]
theorem lay_end (b s : List UInt8) : lay b b.length s = b ++ s := by
  rw [lay_in s (Nat.le_refl _), List.take_length, List.drop_of_length_le (by omega), List.append_nil]
theorem lay_length {b : List UInt8} {k : Nat} (s : List UInt8) (h : k ≤ b.length) : (lay b k s).length = max b.length (k + s.length) := by
  rw [lay_in s h]
  simp
  omega

namespace Dsk
def file (D : Dsk) (n : List UInt8) : Option FileC := aget D.files n
def size (D : Dsk) : Nat := asum (fun f => f.now.length) D.files
def room (D : Dsk) : Int := (D.cap : Int) - D.size
def names (D : Dsk) (head : List UInt8) : List (List UInt8) := (D.files.map (·.1)).filter fun n => head.isPrefixOf n
def create (D : Dsk) (n : List UInt8) : Dsk := { D with files := aput Lit.string n ⟨[], []⟩ D.files }
def write (D : Dsk) (n : List UInt8) (k : Nat) (s : List UInt8) : Dsk :=
  if s = [] then D else
  match D.file n with
  | none => D
  | some f => { D with files := amod n ⟨f.image, lay f.now k s⟩ D.files, waits := D.waits ++ [⟨n, k, s⟩] }
def last1 (D : Dsk) (n : List UInt8) : Dsk :=
  match D.file n with
  | none => D
  | some f => { D with files := amod n ⟨f.now, f.now⟩ D.files, waits := D.waits.filter fun q => !decide (q.name = n) }
def sync (D : Dsk) (l : List (List UInt8)) : Dsk := l.foldl last1 D
def drop1 (D : Dsk) (n : List UInt8) : Dsk := { D with files := adel n D.files, waits := D.waits.filter fun q => !decide (q.name = n) }
def deletes (D : Dsk) (l : List (List UInt8)) : Dsk := l.foldl (fun D n => if (D.file n).isSome then D.drop1 n else D) D
def moved (a b : List UInt8) (q : WaitC) : WaitC := if q.name = a then { q with name := b } else q
def rename (D : Dsk) (a b : List UInt8) : Dsk :=
  if a = b then D else
  match (D.drop1 b).file a with
  | none => D
  | some f => { D with files := adel a (aput Lit.string b f (D.drop1 b).files), waits := (D.drop1 b).waits.map (moved a b) }

/-- What each name holds, behind each call. -/
theorem file_create (D : Dsk) (n m : List UInt8) : (D.create n).file m = if m = n then some ⟨[], []⟩ else D.file m := aget_aput _ _ _ _
theorem file_write {D : Dsk} {n : List UInt8} {k : Nat} {s : List UInt8} {f : FileC} (h : D.file n = some f) (m : List UInt8) : (D.write n k s).file m = if m = n then some ⟨f.image, lay f.now k s⟩ else D.file m := by
  unfold write
  split
  · rename_i e
    subst e
    split
    · rename_i e
      subst e
      rw [h, lay_nil]
    · rfl
  · rw [h]
    show aget (amod n _ D.files) m = _
    rw [aget_amod]
    unfold file at h
    rw [h]
    rfl
theorem file_last1 {D : Dsk} {n : List UInt8} {f : FileC} (h : D.file n = some f) (m : List UInt8) : (D.last1 n).file m = if m = n then some ⟨f.now, f.now⟩ else D.file m := by
  unfold last1
  rw [h]
  show aget (amod n _ D.files) m = _
  rw [aget_amod]
  unfold file at h
  rw [h]
  rfl
theorem file_drop1 (D : Dsk) (n m : List UInt8) : (D.drop1 n).file m = if m = n then none else D.file m := aget_adel _ _ _
theorem file_rename {D : Dsk} {a b : List UInt8} {f : FileC} (h : D.file a = some f) (e : a ≠ b) (m : List UInt8) : (D.rename a b).file m = if m = a then none else if m = b then some f else D.file m := by
  have h2 : (D.drop1 b).file a = some f := by rw [file_drop1, if_neg e, h]
  unfold rename
  rw [if_neg e, h2]
  show aget (adel a (aput Lit.string b f (D.drop1 b).files)) m = _
  rw [aget_adel, aget_aput]
  show (if m = a then none else if m = b then some f else (D.drop1 b).file m) = _
  rw [file_drop1]
  split
  · rfl
  · split
    · rfl
    · rfl

theorem cap_create (D : Dsk) (n : List UInt8) : (D.create n).cap = D.cap := rfl
theorem cap_write (D : Dsk) (n : List UInt8) (k : Nat) (s : List UInt8) : (D.write n k s).cap = D.cap := by
  unfold write
  split
  · rfl
  · split <;> rfl
theorem cap_last1 (D : Dsk) (n : List UInt8) : (D.last1 n).cap = D.cap := by
  unfold last1
  split <;> rfl
theorem cap_drop1 (D : Dsk) (n : List UInt8) : (D.drop1 n).cap = D.cap := rfl
theorem cap_rename (D : Dsk) (a b : List UInt8) : (D.rename a b).cap = D.cap := by
  unfold rename
  split
  · rfl
  · split <;> rfl

/-- No name twice. -/
def Ok (D : Dsk) : Prop := Uni D.files
theorem Ok.create {D : Dsk} (h : D.Ok) (n : List UInt8) : (D.create n).Ok := Uni.aput h _ _
theorem Ok.write {D : Dsk} (h : D.Ok) (n : List UInt8) (k : Nat) (s : List UInt8) : (D.write n k s).Ok := by
  unfold Dsk.write
  split
  · exact h
  · split
    · exact h
    · exact Uni.amod h _ _
theorem Ok.last1 {D : Dsk} (h : D.Ok) (n : List UInt8) : (D.last1 n).Ok := by
  unfold Dsk.last1
  split
  · exact h
  · exact Uni.amod h _ _
theorem Ok.drop1 {D : Dsk} (h : D.Ok) (n : List UInt8) : (D.drop1 n).Ok := Uni.adel h _
theorem Ok.rename {D : Dsk} (h : D.Ok) (a b : List UInt8) : (D.rename a b).Ok := by
  unfold Dsk.rename
  split
  · exact h
  · split
    · exact h
    · exact Uni.adel (Uni.aput (Uni.adel h _) _ _) _

theorem size_create {D : Dsk} (hu : D.Ok) {n : List UInt8} (h : D.file n = none) : (D.create n).size = D.size := by
  have := asum_aput (kf := Lit.string) (fun f : FileC => f.now.length) n ⟨[], []⟩ D.files hu
  unfold file at h
  rw [h] at this
  simpa [size, Dsk.create] using this
theorem size_write {D : Dsk} (hu : D.Ok) {n : List UInt8} {k : Nat} {s : List UInt8} {f : FileC} (h : D.file n = some f) (hk : k ≤ f.now.length) : (D.write n k s).size + f.now.length = D.size + max f.now.length (k + s.length) := by
  unfold write
  split
  · rename_i e
    subst e
    simp only [List.length_nil]
    omega
  · rw [h]
    have := asum_amod (fun f : FileC => f.now.length) n ⟨f.image, lay f.now k s⟩ D.files hu f h
    simp only [lay_length s hk] at this
    exact this
theorem size_last1 {D : Dsk} (hu : D.Ok) {n : List UInt8} {f : FileC} (h : D.file n = some f) : (D.last1 n).size = D.size := by
  unfold last1
  rw [h]
  have := asum_amod (fun f : FileC => f.now.length) n ⟨f.now, f.now⟩ D.files hu f h
  simpa [size] using this
theorem size_drop1 {D : Dsk} (hu : D.Ok) (n : List UInt8) : (D.drop1 n).size + ((D.file n).map fun f => f.now.length).getD 0 = D.size := asum_adel (fun f : FileC => f.now.length) n D.files hu
theorem size_rename {D : Dsk} (hu : D.Ok) {a b : List UInt8} {f : FileC} (h : D.file a = some f) (e : a ≠ b) : (D.rename a b).size + ((D.file b).map fun f => f.now.length).getD 0 = D.size := by
  have h2 : (D.drop1 b).file a = some f := by rw [file_drop1, if_neg e, h]
  have h3 := size_drop1 hu b
  have h4 : (D.drop1 b).Ok := hu.drop1 b
  have h5 := asum_aput (kf := Lit.string) (fun f : FileC => f.now.length) b f (D.drop1 b).files h4
  have h6 := asum_adel (fun f : FileC => f.now.length) a (aput Lit.string b f (D.drop1 b).files) (Uni.aput h4 _ _)
  have h7 : aget (aput Lit.string b f (D.drop1 b).files) a = some f := by
    rw [aget_aput, if_neg e]
    exact h2
  have h8 : aget (D.drop1 b).files b = none := by
    show (D.drop1 b).file b = none
    rw [file_drop1, if_pos rfl]
  rw [h7] at h6
  rw [h8] at h5
  simp only [Option.map_some, Option.map_none, Option.getD_some, Option.getD_none] at h5 h6
  unfold rename
  rw [if_neg e, h2]
  show asum (fun f : FileC => f.now.length) (adel a (aput Lit.string b f (D.drop1 b).files)) + _ = _
  unfold size at *
  omega

theorem waits_write {D : Dsk} {n : List UInt8} {k : Nat} {s : List UInt8} {f : FileC} (h : D.file n = some f) (hs : s ≠ []) : (D.write n k s).waits = D.waits ++ [⟨n, k, s⟩] := by
  unfold write
  rw [if_neg hs, h]
theorem waits_last1 {D : Dsk} {n : List UInt8} {f : FileC} (h : D.file n = some f) : (D.last1 n).waits = D.waits.filter fun q => !decide (q.name = n) := by
  unfold last1
  rw [h]
end Dsk

namespace Dsk
theorem file_sync_now (l : List (List UInt8)) : ∀ (D : Dsk) (n : List UInt8), ((D.sync l).file n).map (·.now) = (D.file n).map (·.now) := by
  induction l with
  | nil => intro D n; rfl
  | cons a l ih =>
    intro D n
    show (((D.last1 a).sync l).file n).map (·.now) = _
    rw [ih]
    cases hf : D.file a with
    | none =>
      have : D.last1 a = D := by unfold last1; rw [hf]
      rw [this]
    | some f =>
      rw [file_last1 hf]
      split
      · rename_i e
        subst e
        rw [hf]
        rfl
      · rfl
theorem waits_sync (l : List (List UInt8)) : ∀ (D : Dsk), (∀ n ∈ l, (D.file n).isSome = true) → (D.sync l).waits = D.waits.filter fun q => !decide (q.name ∈ l) := by
  induction l with
  | nil =>
    intro D _
    simp only [sync, List.foldl_nil, List.not_mem_nil, decide_false, Bool.not_false]
    exact (List.filter_eq_self.2 fun _ _ => rfl).symm
  | cons a l ih =>
    intro D h
    show ((D.last1 a).sync l).waits = _
    have ha := h a (by simp)
    obtain ⟨f, hf⟩ := Option.isSome_iff_exists.1 ha
    rw [ih (D.last1 a) (fun n hn => by
      rw [file_last1 hf]
      split
      · rfl
      · exact h n (by simp [hn])), waits_last1 hf, List.filter_filter]
    apply List.filter_congr
    intro q _
    by_cases e1 : q.name = a <;> by_cases e2 : q.name ∈ l <;> simp [e1, e2]
theorem cap_sync (l : List (List UInt8)) : ∀ D : Dsk, (D.sync l).cap = D.cap := by
  induction l with
  | nil => intro D; rfl
  | cons a l ih =>
    intro D
    show ((D.last1 a).sync l).cap = _
    rw [ih, cap_last1]
theorem Ok.sync {D : Dsk} (h : D.Ok) (l : List (List UInt8)) : (D.sync l).Ok := by
  induction l generalizing D with
  | nil => exact h
  | cons a l ih => exact ih (h.last1 a)
theorem size_sync (l : List (List UInt8)) : ∀ D : Dsk, D.Ok → (D.sync l).size = D.size := by
  induction l with
  | nil => intro D _; rfl
  | cons a l ih =>
    intro D h
    show ((D.last1 a).sync l).size = _
    rw [ih _ (h.last1 a)]
    cases hf : D.file a with
    | none =>
      have : D.last1 a = D := by unfold last1; rw [hf]
      rw [this]
    | some f => exact size_last1 h hf
theorem file_sync_some (l : List (List UInt8)) (D : Dsk) (n : List UInt8) : ((D.sync l).file n).isSome = (D.file n).isSome := by
  have := congrArg Option.isSome (file_sync_now l D n)
  simpa using this
end Dsk

end Go.Proofs.YtnacjogdndggeaaGreatDoor
end
