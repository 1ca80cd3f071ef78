/- Colours of blocks: what a call leaves as it was; a disk in memory. -/
import Derived.Test.YtnacjogdndggeaaGreatDoorZ03
import Derived.Test.YtnacjogdndggeaaGreatDoorZ01
import Derived.Carry
import Derived.StringKeys
import Derived.Deep.CutBlock
section
namespace Go.Proofs.YtnacjogdndggeaaGreatDoor
open Go.Shelf Go.RowKit Go.Lib

abbrev Col := Nat → Nat
/-- Only blocks of colours in C have turned; colours that were given stay. -/
structure Stp (C : Nat → Prop) (χ : Col) (w : World) (χ' : Col) (w' : World) : Prop where
  col : ∀ k, k < w.heap.size → χ' k = χ k
  gr : Gr (fun k => C (χ k)) w w'

/-- New blocks, from n on, have the colour c. -/
def paint (χ : Col) (n c : Nat) : Col := fun k => if k < n then χ k else c
theorem paint_old {χ : Col} {n c k : Nat} (h : k < n) : paint χ n c k = χ k := if_pos h
theorem paint_new {χ : Col} {n c k : Nat} (h : n ≤ k) : paint χ n c k = c := if_neg (by omega)

section
variable {C C' : Nat → Prop} {χ χ1 χ2 χ' : Col} {w w1 w2 w' : World} {c b n : Nat} {cs : Array Value} {t : TypeId}
theorem Stp.refl (C : Nat → Prop) (χ : Col) (w : World) : Stp C χ w χ w := ⟨fun _ _ => rfl, Gr.refl _ _⟩
theorem Stp.trans (h : Stp C χ w χ1 w1) (h' : Stp C χ1 w1 χ2 w2) : Stp C χ w χ2 w2 :=
  ⟨fun k hk => (h'.col k (Nat.lt_of_lt_of_le hk h.gr.size)).trans (h.col k hk), h.gr.trans' h'.gr fun k hk => by
    rcases Nat.lt_or_ge k w.heap.size with h1 | h1
    · exact .inl (by rw [← h.col k h1]; exact hk)
    · exact .inr h1⟩
theorem Stp.mono (h : Stp C χ w χ' w') (hC : ∀ k, C k → C' k) : Stp C' χ w χ' w' := ⟨h.col, h.gr.mono fun _ hk => .inl (hC _ hk)⟩
theorem Stp.of_below (h : Below w.heap.size w w') : Stp C χ w χ w' := ⟨fun _ _ => rfl, Gr.of_below h⟩
theorem Stp.of_grown {row : Option Nat} (h : w.grownBy w' row) (hr : ∀ k, row = some k → C (χ k) ∨ w.heap.size ≤ k) : Stp C χ w χ w' := ⟨fun _ _ => rfl, Gr.of_grown h hr⟩
theorem Stp.alloc (h : Stp C χ w χ1 w1) (o : Obj) : Stp C χ w χ1 (w1.alloc o) := h.trans (Stp.of_below ((Below.refl _ _).alloc (Nat.le_refl _) o))
theorem Stp.drew (h : Stp C χ w χ1 w1) : Stp C χ w χ1 w1.drew := ⟨h.col, h.gr.drew⟩
theorem Stp.set (h : Stp C χ w χ1 w1) {p : Addr} (hp : C (χ1 p.block) ∨ w.heap.size ≤ p.block) (v : Value) : Stp C χ w χ1 (w1.setCell p v) :=
  ⟨h.col, h.gr.set (by
    rcases hp with h1 | h1
    · rcases Nat.lt_or_ge p.block w.heap.size with h2 | h2
      · exact .inl (by rw [← h.col _ h2]; exact h1)
      · exact .inr h2
    · exact .inr h1) v⟩
theorem Stp.size (h : Stp C χ w χ' w') : w.heap.size ≤ w'.heap.size := h.gr.size
/-- New blocks are painted otherwise. -/
theorem Stp.paint (h : Stp C χ w χ1 w1) (hn : w.heap.size ≤ n) (c : Nat) : Stp C χ w (paint χ1 n c) w1 := ⟨fun k hk => (paint_old (by omega)).trans (h.col k hk), h.gr⟩
theorem Stp.below (h : Stp C χ w χ' w') (hC : ∀ k, k < w.heap.size → ¬ C (χ k)) : Below w.heap.size w w' :=
  ⟨h.gr.os, h.gr.tape, h.gr.output, h.gr.size, fun k hk => h.gr.block k hk (hC k hk)⟩
theorem Stp.block (h : Stp C χ w χ' w') {k : Nat} (hk : k < w.heap.size) (hC : ¬ C (χ k)) : w'.heap[k]? = w.heap[k]? := h.gr.block k hk hC
theorem Stp.cell (h : Stp C χ w χ' w') {k o : Nat} (hk : k < w.heap.size) (hC : ¬ C (χ k)) : w'.cell? ⟨k, o, none⟩ = w.cell? ⟨k, o, none⟩ := World.cell?_of_block (a := ⟨k, o, none⟩) (h.block hk hC)

/-- A block with its colour. -/
def CBlk (χ : Col) (c : Nat) (w : World) (b : Nat) (cs : Array Value) (t : TypeId) : Prop := Blk w b cs t ∧ χ b = c
theorem CBlk.stp (h : CBlk χ c w b cs t) (s : Stp C χ w χ' w') (hc : ¬ C c) : CBlk χ' c w' b cs t := by
  have hlt := h.1.lt
  refine ⟨?_, (s.col b hlt).trans h.2⟩
  unfold Blk
  rw [s.block hlt (by rw [h.2]; exact hc)]
  exact h.1
theorem Blk.stp (h : Blk w b cs t) (s : Stp C χ w χ' w') (hc : ¬ C (χ b)) : Blk w' b cs t := by
  unfold Blk
  rw [s.block h.lt hc]
  exact h
theorem Blk.ne {b' : Nat} {cs' : Array Value} {t' : TypeId} (h : Blk w b cs t) (h' : Blk w b' cs' t') (ht : t ≠ t') : b ≠ b' := by
  rintro rfl
  unfold Blk at h h'
  rw [h] at h'
  injection h' with h'
  injection h' with _ h' _
  exact ht h'
theorem Blk.ne_map {H : Type} {P : Program} {k : TypeId} {R : Value → Option (DataW H × List MemPlace)} {m n : Nat} {D : DataW H} (h : Blk w b cs t) (h' : w.ownsMap P k R m n D) : b ≠ m := by
  rintro rfl
  obtain ⟨es, clock, hb, _⟩ := h'
  unfold Blk at h
  rw [h] at hb
  injection hb with hb
  cases hb
theorem Blk.ne_row {base : Nat} {e : TypeId} {size : Nat} {v : Value} {n : Nat} {xs : List Value} (h : Blk w b cs t) (h' : w.ownsRow base e size v n xs) (ht : t ≠ e) : v.ownBlock ≠ some b := by
  intro hv
  rcases h'.2 with ⟨rfl, _⟩ | ⟨g, cap, cur, rfl, _, hg, _⟩
  · cases hv
  · injection hv with hv
    simp only at hv
    subst hv
    unfold Blk at h
    rw [h] at hg
    injection hg with hg
    injection hg with _ hg _
    exact ht hg
theorem map_ne_row {H : Type} {P : Program} {k : TypeId} {R : Value → Option (DataW H × List MemPlace)} {m n' : Nat} {D : DataW H} {base : Nat} {e : TypeId} {size : Nat} {v : Value} {n : Nat} {xs : List Value} (h : w.ownsMap P k R m n' D) (h' : w.ownsRow base e size v n xs) : v.ownBlock ≠ some m := by
  intro hv
  obtain ⟨es, clock, hb, _⟩ := h
  rcases h'.2 with ⟨rfl, _⟩ | ⟨g, cap, cur, rfl, _, hg, _⟩
  · cases hv
  · injection hv with hv
    simp only at hv
    subst hv
    rw [hb] at hg
    injection hg with hg
    cases hg
theorem ownsMap_stp {H : Type} {P : Program} {k : TypeId} {R : Value → Option (DataW H × List MemPlace)} {b n : Nat} {D : DataW H} (h : w.ownsMap P k R b n D) (s : Stp C χ w χ' w') (hb : ¬ C (χ b)) : w'.ownsMap P k R b n D := ownsMap_gr h s.gr hb
theorem ownsRow_stp {base : Nat} {e : TypeId} {size : Nat} {v : Value} {n : Nat} {xs : List Value} (h : w.ownsRow base e size v n xs) (s : Stp C χ w χ' w') (hb : ∀ g, v.ownBlock = some g → ¬ C (χ g)) : w'.ownsRow base e size v n xs := ownsRow_gr h s.gr hb
/-- A map's bound is its number of entries. -/
theorem ownsMap_tight {H : Type} {P : Program} {k : TypeId} {R : Value → Option (DataW H × List MemPlace)} {b n : Nat} {es : List (Lit × DataW H)} (h : w.ownsMap P k R b n (.map es)) : w.ownsMap P k R b es.length (.map es) := by
  obtain ⟨es', clock, hb, F, hs, hD⟩ := h
  refine ⟨es', clock, hb, F, ?_, hD⟩
  injection hD with hD
  rw [hD, length_sorted]
  simp
end

/-- How an element of the disk's files reads: a pointer as its block's number, none as false. -/
def Rp : Value → Option (DataW Unit × List MemPlace)
  | .pointer none => some (.lit (.bool false), [])
  | .pointer (some ⟨b, 0, none⟩) => some (.lit (.int .i64 b), [])
  | _ => none
theorem Rp_inv {v : Value} {y : DataW Unit × List MemPlace} (h : Rp v = some y) : (v = .pointer none ∧ y = (.lit (.bool false), [])) ∨ ∃ b : Nat, v = .pointer (some ⟨b, 0, none⟩) ∧ y = (.lit (.int .i64 b), []) := by
  unfold Rp at h
  split at h
  · exact .inl ⟨rfl, by injection h with h; exact h.symm⟩
  · exact .inr ⟨_, rfl, by injection h with h; exact h.symm⟩
  · cases h

/-- How the files' map reads. -/
def filesD (blk : List UInt8 → Nat) (l : List (List UInt8 × FileC)) : DataW Unit := amap Lit.string (fun n _ => .lit (.int .i64 (blk n))) l
theorem ownsMap_tight_files {w : World} {fm n : Nat} {b : List UInt8 → Nat} {l : List (List UInt8 × FileC)} (h : w.ownsMap Tryz.prog 9 Rp fm n (filesD b l)) : w.ownsMap Tryz.prog 9 Rp fm l.length (filesD b l) := by
  have := ownsMap_tight h
  rwa [List.length_map] at this
/-- A waiting write's cells. -/
def waitV (blk : List UInt8 → Nat) (q : WaitC) : List Value := [.pointer (some ⟨blk q.name, 0, none⟩), .int .i64 q.pos, .string (S q.s)]

structure DkAt (χ : Col) (c : Nat) (w : World) (d : Nat) (D : Dsk) (fm : Nat) (blk : List UInt8 → Nat) (wv : Value) : Prop where
  own : CBlk χ c w d #[.int .i64 (-1), .bool false, .map (some fm), wv, .int .i64 D.cap] 75
  map : w.ownsMap Tryz.prog 9 Rp fm D.files.length (filesD blk D.files)
  cmap : χ fm = c
  file : ∀ n f, D.file n = some f → CBlk χ c w (blk n) #[.string (S f.image), .string (S f.now)] 282
  inj : ∀ n m, (D.file n).isSome = true → (D.file m).isSome = true → blk n = blk m → n = m
  row : w.ownsRow 0 306 3 wv D.waits.length (D.waits.flatMap (waitV blk))
  crow : ∀ g, wv.ownBlock = some g → χ g = c
  there : ∀ q ∈ D.waits, (D.file q.name).isSome = true
  cap : D.cap ≤ 16777216
  len : ∀ n f, D.file n = some f → n.length ≤ 1000 ∧ f.image.length ≤ 16777216 ∧ f.now.length ≤ 16777216
  size : D.size ≤ D.cap

/-- A disk in memory, all its blocks of one colour. -/
def IsDk (χ : Col) (c : Nat) (w : World) (d : Nat) (D : Dsk) : Prop := ∃ fm blk wv, DkAt χ c w d D fm blk wv

section
variable {C : Nat → Prop} {χ χ' : Col} {w w' : World} {c d fm : Nat} {D : Dsk} {blk : List UInt8 → Nat} {wv : Value}
theorem DkAt.stp (h : DkAt χ c w d D fm blk wv) (s : Stp C χ w χ' w') (hc : ¬ C c) : DkAt χ' c w' d D fm blk wv where
  own := h.own.stp s hc
  map := ownsMap_stp h.map s (by rw [h.cmap]; exact hc)
  cmap := (s.col _ h.map.lt).trans h.cmap
  file := fun n f e => (h.file n f e).stp s hc
  inj := h.inj
  row := ownsRow_stp h.row s fun g hg => by rw [h.crow g hg]; exact hc
  crow := fun g hg => (s.col _ (h.row.lt g hg).2).trans (h.crow g hg)
  there := h.there
  cap := h.cap
  len := h.len
  size := h.size
theorem IsDk.stp (h : IsDk χ c w d D) (s : Stp C χ w χ' w') (hc : ¬ C c) : IsDk χ' c w' d D := by
  obtain ⟨fm, blk, wv, h⟩ := h
  exact ⟨fm, blk, wv, h.stp s hc⟩
theorem DkAt.uni (h : DkAt χ c w d D fm blk wv) : D.Ok := uni_of_canon _ _ (h.map.canon (Go.Maps.string_keyed Tryz.underlying9))
theorem IsDk.ok (h : IsDk χ c w d D) : D.Ok := by
  obtain ⟨fm, blk, wv, h⟩ := h
  exact h.uni
theorem IsDk.size (h : IsDk χ c w d D) : D.size ≤ D.cap ∧ D.cap ≤ 16777216 := by
  obtain ⟨fm, blk, wv, h⟩ := h
  exact ⟨h.size, h.cap⟩
theorem IsDk.len (h : IsDk χ c w d D) {n : List UInt8} {f : FileC} (hf : D.file n = some f) : n.length ≤ 1000 ∧ f.image.length ≤ 16777216 ∧ f.now.length ≤ 16777216 := by
  obtain ⟨fm, blk, wv, h⟩ := h
  exact h.len n f hf
theorem IsDk.lt (h : IsDk χ c w d D) : d < w.heap.size := by
  obtain ⟨fm, blk, wv, h⟩ := h
  exact h.own.1.lt
/-- Stp out of a world where nothing old has turned. -/
theorem IsDk.below (h : IsDk χ c w d D) (hb : Below w.heap.size w w') : IsDk χ c w' d D := h.stp (C := fun _ => False) (Stp.of_below hb) (fun h => h)
end

theorem files_keyed : Go.Maps.Keyed Tryz.prog 9 := Go.Maps.string_keyed Tryz.underlying9
theorem name_key (s : List UInt8) (hs : s.length ≤ maxLen) : keyOf Tryz.prog 9 (.string (S s)) = some (.string s) := by
  have := Go.WideMaps.keyOf_string_mk (P := Tryz.prog) Tryz.underlying9 (s := S s) (by simpa using hs)
  rw [S_data] at this
  exact this

set_option maxRecDepth 100000 in
/-- A look into the files' map: the file's block, or nil. -/
theorem DkAt.lookup {χ : Col} {c : Nat} {w : World} {d : Nat} {D : Dsk} {fm : Nat} {blk : List UInt8 → Nat} {wv : Value} (h : DkAt χ c w d D fm blk wv) (s : List UInt8) (hs : s.length ≤ maxLen) :
    (Instr.lookup 72 (.map (some fm)) (.string (S s)) false).run Tryz.prog w = .ok (match D.file s with | none => .pointer none | some _ => .pointer (some ⟨blk s, 0, none⟩)) w := by
  obtain ⟨v, ps, hrun, hv⟩ := h.map.lookup files_keyed Tryz.underlying72 (Tryz.zeroValue262 w) (zd := .lit (.bool false)) (zp := []) rfl (name_key s hs)
  rw [hrun]
  have ha := amap_atKey (f := fun n (_ : FileC) => (.lit (.int .i64 (blk n)) : DataW Unit)) kfS s (.lit (.bool false)) D.files
  rw [show amap Lit.string (fun n (_ : FileC) => (.lit (.int .i64 (blk n)) : DataW Unit)) D.files = filesD blk D.files from rfl] at ha
  rw [ha] at hv
  unfold Dsk.file
  rcases Rp_inv hv with ⟨rfl, hy⟩ | ⟨b, rfl, hy⟩
  · have h1 := congrArg Prod.fst hy
    dsimp only at h1
    cases hf : aget D.files s with
    | none => rfl
    | some f =>
      rw [hf] at h1
      cases h1
  · have h1 := congrArg Prod.fst hy
    dsimp only at h1
    cases hf : aget D.files s with
    | none =>
      rw [hf] at h1
      cases h1
    | some f =>
      rw [hf] at h1
      simp only at h1
      injection h1 with h1
      injection h1 with _ h1
      have : blk s = b := Int.ofNat_inj.1 h1
      rw [this]

end Go.Proofs.YtnacjogdndggeaaGreatDoor
end
