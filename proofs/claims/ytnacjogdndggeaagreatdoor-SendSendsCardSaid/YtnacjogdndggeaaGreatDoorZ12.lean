/- Layer 17 (pend): Due, over. Layer 4 (disk): New, Down, Waits, done, bars. Layer 4 (disk): how many bytes all files have. A disk in memory: what a store into its cells makes of it. -/
import Derived.Test.YtnacjogdndggeaaGreatDoorZ11
import Derived.Test.YtnacjogdndggeaaGreatDoorZ04
import Derived.Maps.RangeWalk
import Derived.Sort.MapsRangeIn
section
namespace Go.Proofs.YtnacjogdndggeaaGreatDoor
open Go.Shelf Go.RowKit Go.Lib
set_option maxRecDepth 100000
set_option maxHeartbeats 1000000

theorem pend_field1 (s d : Int) (w : World) : (Instr.field 107 (.agg #[.int .i64 s, .int .i64 d]) 1).run Tryz.prog w = .ok (.int .i64 d) w := by
  simp [Instr.field, run_underlying Tryz.underlying107, asAgg, part, go_sem]
def dueF (L : Pends) (id : Int) : Int := if stateF L id = 1 then ((aget L id).getD (0, 0)).2 else 0
theorem Due_any {χ : Col} {c : Nat} {w : World} {p : Nat} {L : Pends} (h : IsPend χ c w p L) (id : Int) (h0 : -9223372036854775808 ≤ id) (h1 : id ≤ 9223372036854775807) :
    Calls Tryz.prog 21 #[.pointer (some ⟨p, 0, none⟩), .int .i64 id] w fun e w' => e = .returned (.int .i64 (dueF L id)) ∧ w = w' := by
  have hS := State_any h id h0 h1
  obtain ⟨m, h⟩ := h
  have hl := h.lookup id h0 h1
  have c0 := h.own.1.cell 0
  have HS : Hid (dueF L id = if stateF L id = 1 then ((aget L id).getD (0, 0)).2 else 0) := rfl
  clear h
  generalize stateF L id = st at *
  generalize (aget L id).getD (0, 0) = a at *
  obtain ⟨s, d⟩ := a
  unfold pairV at hl
  have hf := pend_field1 s d w
  by_cases e : st = 1
  · subst e
    go_enter Tryz.func21, Tryz.ntmps21
    go_wp2_with (fail)
    refine hS.mono ?_
    rintro e w' ⟨rfl, rfl⟩
    clear hS
    go_wp2_with (fail)
    go_ret
    exact ⟨by rw [HS.out]; simp, rfl⟩
  · have hb : (st != 1) = true := by simpa using e
    go_enter Tryz.func21, Tryz.ntmps21
    go_wp2_with (fail)
    refine hS.mono ?_
    rintro e w' ⟨rfl, rfl⟩
    clear hS
    go_wp2_with (fail)
    go_ret
    exact ⟨by rw [HS.out]; simp [e], rfl⟩

end Go.Proofs.YtnacjogdndggeaaGreatDoor
end

section
namespace Go.Proofs.YtnacjogdndggeaaGreatDoor
open Go.Shelf Go.RowKit Go.Lib

def capF (c : Int) : Nat := (min (max c 0) 16777216).toNat
/-- A new disk. -/
def dskNew (c : Int) : Dsk := ⟨[], [], capF c⟩

set_option maxRecDepth 100000 in
set_option maxHeartbeats 1000000 in
theorem diskNew_any (χ : Col) (col : Nat) (c : Int) (w : World) :
    Calls Tryz.prog 7 #[.int .i64 c] w fun e w' => e = .returned (.pointer (some ⟨w.heap.size + 1, 0, none⟩)) ∧ IsDk (paint χ w.heap.size col) col w' (w.heap.size + 1) (dskNew c) ∧ Below w.heap.size w w' := by
  have hmm := @run_makeMap Tryz.prog
  have HC : Hid (((capF c : Nat) : Int) = min (max c 0) 16777216) := Lib.hid (by unfold capF; omega)
  go_enter Tryz.func7, Tryz.ntmps7
  go_wp2
  go_ret
  have hs : (w.alloc (.map #[] 0)).heap.size = w.heap.size + 1 := by simp
  have hb := Blk.new (w.alloc (.map #[] 0)) #[.int .i64 (-1), .bool false, .map (some w.heap.size), .slice none 0 0, .int .i64 (min (max c 0) 16777216)] 75
  rw [hs] at hb
  refine ⟨rfl, ⟨w.heap.size, fun _ => 0, .slice none 0 0, ?_⟩, ((Below.refl _ _).alloc (Nat.le_refl _) _).alloc (by simp) _⟩
  exact {
    own := ⟨by rw [show (dskNew c).cap = capF c from rfl, HC.out]; exact hb, paint_new (by omega)⟩
    map := (World.ownsMap_made w Tryz.prog 9 Rp).alloc _
    cmap := paint_new (Nat.le_refl _)
    file := fun n f h => by cases h
    inj := fun n m h => by cases h
    row := World.ownsRow_nil _ _ _ _
    crow := fun g h => by cases h
    there := fun q h => by cases h
    cap := by show capF c ≤ _; unfold capF; omega
    len := fun n f h => by cases h
    size := Nat.zero_le _ }

section
variable {χ : Col} {c d : Nat} {D : Dsk} {w : World}
set_option maxRecDepth 100000
set_option maxHeartbeats 1000000

theorem Down_any (h : IsDk χ c w d D) :
    Calls Tryz.prog 64 #[.pointer (some ⟨d, 0, none⟩)] w fun e w' => e = .returned (.bool false) ∧ w = w' := by
  obtain ⟨fm, blk, wv, h⟩ := h
  have c1 := h.own.1.cell 1
  go_enter Tryz.func64, Tryz.ntmps64
  go_wp2
  go_ret
  exact ⟨rfl, rfl⟩

theorem burn_any (h : IsDk χ c w d D) :
    Calls Tryz.prog 227 #[.pointer (some ⟨d, 0, none⟩)] w fun e w' => e = .returned (.bool true) ∧ w = w' := by
  obtain ⟨fm, blk, wv, h⟩ := h
  have c0 := h.own.1.cell 0
  go_enter Tryz.func227, Tryz.ntmps227
  go_wp2
  go_ret
  exact ⟨rfl, rfl⟩

theorem done_any (h : IsDk χ c w d D) :
    Calls Tryz.prog 180 #[.pointer (some ⟨d, 0, none⟩)] w fun e w' => e = .returned (.int .i64 0) ∧ w = w' := by
  have hb := burn_any h
  go_enter Tryz.func180, Tryz.ntmps180
  go_wp2_with (fail)
  refine hb.mono ?_
  rintro e w' ⟨rfl, rfl⟩
  go_wp2
  go_ret
  exact ⟨rfl, rfl⟩

theorem Waits_any (h : IsDk χ c w d D) :
    Calls Tryz.prog 14 #[.pointer (some ⟨d, 0, none⟩)] w fun e w' => e = .returned (.int .i64 D.waits.length) ∧ w = w' := by
  obtain ⟨fm, blk, wv, h⟩ := h
  have c3 := h.own.1.cell 3
  have hv : ∃ A n, wv = .slice A D.waits.length n := by
    rcases h.row.2 with ⟨rfl, h0⟩ | ⟨g, cap, cur, rfl, _⟩
    · exact ⟨none, 0, by rw [h0]⟩
    · exact ⟨_, cap, rfl⟩
  obtain ⟨A, n, rfl⟩ := hv
  clear h
  generalize D.waits.length = k at *
  go_enter Tryz.func14, Tryz.ntmps14
  go_wp2
  go_ret
  exact ⟨rfl, rfl⟩

theorem bars_none (h : IsDk χ c w d D) (A : Option Addr) (n : Nat) :
    Calls Tryz.prog 179 #[.pointer (some ⟨d, 0, none⟩), .slice A 0 n] w fun e w' => e = .returned (.int .i64 0) ∧ w = w' := by
  obtain ⟨fm, blk, wv, h⟩ := h
  have c1 := h.own.1.cell 1
  clear h
  go_enter Tryz.func179, Tryz.ntmps179
  go_wp2
  refine wp_loop_rounds 1 ?_
  rw [rounds_succ]
  go_wp2
  go_ret
  exact ⟨rfl, rfl⟩

theorem bars_one (h : IsDk χ c w d D) {b : Nat} {s : List UInt8} (hc : w.cell? ⟨b, 0, none⟩ = some (.string (S s))) (hs : s.length ≤ maxLen) :
    Calls Tryz.prog 179 #[.pointer (some ⟨d, 0, none⟩), .slice (some ⟨b, 0, none⟩) 1 1] w fun e w' => e = .returned (.int .i64 (if (D.file s).isSome then 0 else 9)) ∧ w = w' := by
  obtain ⟨fm, blk, wv, h⟩ := h
  have c1 := h.own.1.cell 1
  have c2 := h.own.1.cell 2
  have hl := h.lookup s hs
  cases hf : D.file s with
  | none =>
    rw [hf] at hl
    simp only at hl
    clear h hf
    go_enter Tryz.func179, Tryz.ntmps179
    go_wp2
    refine wp_loop_rounds 2 ?_
    rw [rounds_succ]
    go_wp2
    go_ret
    exact ⟨rfl, rfl⟩
  | some f =>
    rw [hf] at hl
    simp only at hl
    clear h hf
    go_enter Tryz.func179, Tryz.ntmps179
    go_wp2
    refine wp_loop_rounds 2 ?_
    rw [rounds_succ]
    go_wp2
    rw [rounds_succ]
    go_wp2
    go_ret
    exact ⟨rfl, rfl⟩
end

end Go.Proofs.YtnacjogdndggeaaGreatDoor
end

section
namespace Go.Proofs.YtnacjogdndggeaaGreatDoor
open Go.Shelf Go.RowKit Go.Lib

def optP (o : Option Nat) : Value := .pointer (o.map fun b => ⟨b, 0, none⟩)
def nowLen (f : FileC) : Nat := f.now.length
theorem Rp_shape (v : Value) (y : DataW Unit × List MemPlace) (h : Rp v = some y) : ∃ o : Option Nat, v = optP o := by
  rcases Rp_inv h with ⟨rfl, _⟩ | ⟨b, rfl, _⟩
  · exact ⟨none, rfl⟩
  · exact ⟨some b, rfl⟩
theorem name_shape (key : Value) (kl : Lit) (h : keyOf Tryz.prog 9 key = some kl) : ∃ s : List UInt8, key = .string (S s) := by
  obtain ⟨s, rfl⟩ := Go.Maps.keyOf_string_inv Tryz.underlying9 h
  exact ⟨s.data.toList, rfl⟩
theorem name_lit {s : List UInt8} {kl : Lit} (h : keyOf Tryz.prog 9 (.string (S s)) = some kl) : kl = .string s := by
  simp only [keyOf, Tryz.underlying9, mapKey] at h
  split at h
  · injection h with h
    rw [← h, S_data]
  · cases h
/-- What a step of a range over the files' map comes to. -/
theorem files_step {D : Dsk} {blk : List UInt8 → Nat} {s : List UInt8} {o : Option Nat} {y : DataW Unit × List MemPlace}
    (hv : Rp (optP o) = some y) (hat : ∀ zd, (filesD blk D.files).atKey (.string s) zd = y.1) : ∃ f, D.file s = some f ∧ o = some (blk s) := by
  have ha := fun z => amap_atKey (f := fun n (_ : FileC) => (.lit (.int .i64 (blk n)) : DataW Unit)) kfS s z D.files
  unfold Dsk.file
  cases hf : aget D.files s with
  | none =>
    have h1 := (ha (.lit (.bool true))).symm.trans (hat (.lit (.bool true)))
    have h2 := (ha (.lit (.bool false))).symm.trans (hat (.lit (.bool false)))
    rw [hf] at h1 h2
    rw [← h1] at h2
    cases h2
  | some f =>
    refine ⟨f, rfl, ?_⟩
    have h1 := (ha (.lit (.bool true))).symm.trans (hat (.lit (.bool true)))
    rw [hf] at h1
    rcases Rp_inv hv with ⟨_, e⟩ | ⟨b, e, e2⟩
    · rw [e] at h1
      cases h1
    · rw [e2] at h1
      simp only at h1
      injection h1 with h1
      injection h1 with _ h1
      have h3 : blk s = b := Int.ofNat_inj.1 h1
      subst h3
      cases o with
      | none => cases e
      | some q =>
        unfold optP at e
        simp at e
        rw [e]

theorem asum_big (D : Dsk) (h : D.size ≤ 70368744177664) (left : Lit → Bool) : asumL Lit.string nowLen left D.files ≤ 70368744177664 := Nat.le_trans (asumL_le nowLen left D.files) h

set_option maxRecDepth 100000 in
set_option maxHeartbeats 2000000 in
theorem Size_any {χ : Col} {c d : Nat} {D : Dsk} {w : World} (h : IsDk χ c w d D) :
    Calls Tryz.prog 205 #[.pointer (some ⟨d, 0, none⟩)] w fun e w' => e = .returned (.int .i64 D.size) ∧ Below w.heap.size w w' := by
  have hs : D.size ≤ 70368744177664 := by have := h.size; omega
  obtain ⟨fm, blk, wv, h⟩ := h
  have c1 := h.own.1.cell 2
  have hown := h.map
  have hu := h.uni
  have HH := Lib.hid h
  have HS := Lib.hid hs
  have HU := Lib.hid hu
  have hfmlt := h.map.lt
  clear h hs hu
  go_enter Tryz.func205, Tryz.ntmps205
  go_wp2_with (first | (at_range; refine wpList_range_own _ rfl _ 72 rfl 9 262 files_keyed Tryz.underlying72 _ fm _ _ rfl hown ?_; intro w0 hrg0 hg0 hs0) | fail)
  go_frame
  have HB0 := Lib.hid ((Below.refl w.heap.size w).grown hg0 (Nat.le_refl _) (fun k hk => by cases hk))
  clear hown c1 hg0
  go_loopw [3] (fun vn wr => ∃ left cnt, vn = .int .i64 (asumL Lit.string nowLen left D.files : Nat) ∧ wr.ranges Tryz.prog 9 Rp fm w.heap.size D.files.length (filesD blk D.files) left cnt ∧ Hid (Below w.heap.size w wr)) (fun _ wr => wr.rangeLeft fm w.heap.size)
  case atStart =>
    refine ⟨_, _, ?_, hrg0, HB0⟩
    rw [asumL_none]
    · rfl
    · intro p hp
      have := amap_has (f := fun n (_ : FileC) => (.lit (.int .i64 (blk n)) : DataW Unit)) kfS p.1 D.files
      show Maps.has (filesD blk D.files) (Lit.string p.1) = true
      refine this.trans ?_
      cases hg : aget D.files p.1 with
      | some _ => rfl
      | none => exact absurd rfl (aget_none.1 hg p hp)
  case round =>
    obtain ⟨left, cnt, rfl, hrg, HB⟩ := hrel
    go_wp2_with (first | (at_next; refine wpList_next_ranges _ rfl _ rfl 9 files_keyed Rp (fun s : List UInt8 => .string (S s)) optP name_shape Rp_shape fm w.heap.size _ _ _ _ rfl hrg ?_ ?_) | fail)
    · intro hc0 hl0
      go_wp2
      go_ret
      exact ⟨ret_int (by rw [asumL_all nowLen hl0]; rfl), HB.out⟩
    · intro s o kl y yp w1 cnt1 hkey hlk hv hat hrg1 hlt hg1 hs1 hen
      obtain rfl := name_lit hkey
      obtain ⟨f, hf, rfl⟩ := files_step hv hat
      have HB1 := Lib.hid (HB.out.grown hg1 HB.out.size (by rintro _ ⟨⟩; exact Nat.le_refl _))
      have cf := ((HH.out.file s f hf).1.below HB1.out).cell 1
      have hb1 := asum_big D HS.out left
      have hb2 : (f.now.length : Int) ≤ 16777216 := by have := (HH.out.len s f hf).2.2; omega
      have HA : Hid (asumL Lit.string nowLen (fun z => left z && !z.sameKey (.string s)) D.files = asumL Lit.string nowLen left D.files + f.now.length) := asumL_step kfS nowLen left _ s hlk (fun _ => rfl) D.files HU.out f hf
      have HR := Lib.hid hrg1
      have HO := Lib.hid (hrg.left_eq)
      have HL := Lib.hid hlt
      clear hat hv hkey hg1 hs1 hrg1 hrg HB hlk hlt
      unfold optP at hen
      simp only [Option.map_some] at hen
      go_wp2
      go_roundw
      case rel => exact ⟨_, cnt1, by rw [HA.out]; go_num, HR.out, HB1⟩
      case measure => rw [HR.out.left_eq, HO.out]; exact HL.out

end Go.Proofs.YtnacjogdndggeaaGreatDoor
end

section
namespace Go.Proofs.YtnacjogdndggeaaGreatDoor
open Go.Shelf Go.RowKit Go.Lib

theorem grown_set (w : World) (b o : Nat) (v : Value) : w.grownBy (w.setCell ⟨b, o, none⟩ v) (some b) := Only.set v o (World.grownBy.refl w _)

theorem Blk.grown {w w' : World} {b : Nat} {cs : Array Value} {t : TypeId} {row : Option Nat} (h : Blk w b cs t) (hg : w.grownBy w' row) (hne : row ≠ some b) : Blk w' b cs t := by
  unfold Blk
  rw [hg.block b h.lt (fun e => hne e.symm)]
  exact h
theorem row_shape {w : World} {base : Nat} {e : TypeId} {size : Nat} {v : Value} {n : Nat} {xs : List Value} (h : w.ownsRow base e size v (n + 1) xs) : ∃ g cap, v = .slice (some ⟨g, 0, none⟩) (n + 1) cap := by
  rcases h.2 with ⟨_, h0⟩ | ⟨g, cap, cur, rfl, _⟩
  · cases h0
  · exact ⟨g, cap, rfl⟩
theorem row_any {w : World} {base : Nat} {e : TypeId} {size : Nat} {v : Value} {n : Nat} {xs : List Value} (h : w.ownsRow base e size v n xs) : ∃ A cap, v = .slice A n cap := by
  rcases h.2 with ⟨rfl, rfl⟩ | ⟨g, cap, cur, rfl, _⟩
  · exact ⟨none, 0, rfl⟩
  · exact ⟨_, cap, rfl⟩

section
variable {χ χ' : Col} {c d fm : Nat} {D : Dsk} {blk : List UInt8 → Nat} {wv : Value} {w w' : World} {n : List UInt8} {f : FileC}

theorem DkAt.ne_d (h : DkAt χ c w d D fm blk wv) (hf : D.file n = some f) : blk n ≠ d := (h.file n f hf).1.ne h.own.1 (by decide)
theorem DkAt.ne_fm (h : DkAt χ c w d D fm blk wv) (hf : D.file n = some f) : blk n ≠ fm := (h.file n f hf).1.ne_map h.map
theorem DkAt.ne_row (h : DkAt χ c w d D fm blk wv) (hf : D.file n = some f) : wv.ownBlock ≠ some (blk n) := (h.file n f hf).1.ne_row h.row (by decide)
theorem DkAt.d_fm (h : DkAt χ c w d D fm blk wv) : d ≠ fm := h.own.1.ne_map h.map
theorem DkAt.d_row (h : DkAt χ c w d D fm blk wv) : wv.ownBlock ≠ some d := h.own.1.ne_row h.row (by decide)
theorem DkAt.fm_row (h : DkAt χ c w d D fm blk wv) : wv.ownBlock ≠ some fm := map_ne_row h.map h.row

/-- A store into one file's block. -/
theorem DkAt.setFile (h : DkAt χ c w d D fm blk wv) (hf : D.file n = some f) (g : FileC) (hg : g.image.length ≤ 16777216 ∧ g.now.length ≤ 16777216) (hsz : ({ D with files := amod n g D.files } : Dsk).size ≤ D.cap)
    (hw : w.grownBy w' (some (blk n))) (hb : Blk w' (blk n) #[.string (S g.image), .string (S g.now)] 282) : DkAt χ c w' d { D with files := amod n g D.files } fm blk wv := by
  have hlook : ∀ m, ({ D with files := amod n g D.files } : Dsk).file m = if m = n then some g else D.file m := fun m => by
    show aget (amod n g D.files) m = _
    rw [aget_amod]
    unfold Dsk.file at hf
    rw [hf]
    rfl
  have hsome : ∀ m, (({ D with files := amod n g D.files } : Dsk).file m).isSome = (D.file m).isSome := fun m => by
    rw [hlook]
    split
    · rename_i e
      rw [e, hf]
      rfl
    · rfl
  have hoth : ∀ b, b ≠ blk n → ∀ {cs : Array Value} {t : TypeId}, Blk w b cs t → Blk w' b cs t := fun b hne cs t hB => by
    unfold Blk
    rw [hw.block b hB.lt (by simpa using hne)]
    exact hB
  exact {
    own := ⟨hoth d (h.ne_d hf).symm h.own.1, h.own.2⟩
    map := by
      have := h.map.kept hw (by simpa using (h.ne_fm hf).symm)
      have e : filesD blk (amod n g D.files) = filesD blk D.files := by
        unfold filesD amap
        rw [map_key_amod (fun k => (Lit.string k, (.lit (.int .i64 (blk k)) : DataW Unit)))]
      show w'.ownsMap _ _ Rp fm (amod n g D.files).length (filesD blk (amod n g D.files))
      rw [e, show (amod n g D.files).length = D.files.length by unfold amod; rw [List.length_map]]
      exact this
    cmap := h.cmap
    file := fun m f' hm => by
      rw [hlook] at hm
      split at hm
      · rename_i e
        injection hm with hm
        subst e hm
        exact ⟨hb, (h.file _ f hf).2⟩
      · rename_i e
        have h1 := h.file m f' hm
        refine ⟨hoth _ (fun e2 => e (h.inj m n (by rw [hm]; rfl) (by rw [hf]; rfl) e2)) h1.1, h1.2⟩
    inj := fun m k hm hk e => h.inj m k ((hsome m).symm.trans hm) ((hsome k).symm.trans hk) e
    row := h.row.kept hw (.inr (by
      intro e
      exact h.ne_row hf e))
    crow := h.crow
    there := fun q hq => (hsome _).trans (h.there q hq)
    cap := h.cap
    len := fun m f' hm => by
      rw [hlook] at hm
      split at hm
      · rename_i e
        injection hm with hm
        subst e hm
        exact ⟨(h.len _ f hf).1, hg⟩
      · exact h.len m f' hm
    size := hsz }

/-- A store into one file's bytes. -/
theorem DkAt.setNow (h : DkAt χ c w d D fm blk wv) (hf : D.file n = some f) (x : List UInt8) (hx : x.length ≤ 16777216) (hsz : ({ D with files := amod n ⟨f.image, x⟩ D.files } : Dsk).size ≤ D.cap) :
    DkAt χ c (w.setCell ⟨blk n, 1, none⟩ (.string (S x))) d { D with files := amod n ⟨f.image, x⟩ D.files } fm blk wv :=
  h.setFile hf ⟨f.image, x⟩ ⟨(h.len n f hf).2.1, hx⟩ hsz (grown_set _ _ _ _) ((h.file n f hf).1.set 1 _)

/-- Another slice of writes that wait. -/
theorem DkAt.setWaits (h : DkAt χ c w d D fm blk wv) (v : Value) (W : List WaitC) (hx : ∀ k, k < w.heap.size → χ' k = χ k) (hg : w.grownBy w' wv.ownBlock)
    (hr : w'.ownsRow 0 306 3 v W.length (W.flatMap (waitV blk))) (hc : ∀ g, v.ownBlock = some g → χ' g = c) (ht : ∀ q ∈ W, (D.file q.name).isSome = true) :
    DkAt χ' c (w'.setCell ⟨d, 3, none⟩ v) d { D with waits := W } fm blk v := by
  have hlt := h.own.1.lt
  have hd : Blk w' d #[.int .i64 (-1), .bool false, .map (some fm), wv, .int .i64 D.cap] 75 := by
    unfold Blk
    rw [hg.block d hlt h.d_row.symm]
    exact h.own.1
  have hvd : v.ownBlock ≠ some d := hd.ne_row hr (by decide)
  exact {
    own := ⟨hd.set 3 v, (hx d hlt).trans h.own.2⟩
    map := (h.map.kept hg h.fm_row.symm).kept (grown_set _ _ _ _) (by simpa using h.d_fm.symm)
    cmap := (hx _ h.map.lt).trans h.cmap
    file := fun m f' hm => by
      have h1 := h.file m f' hm
      refine ⟨?_, (hx _ h1.1.lt).trans h1.2⟩
      have h2 : Blk w' (blk m) #[.string (S f'.image), .string (S f'.now)] 282 := by
        unfold Blk
        rw [hg.block _ h1.1.lt (h.ne_row hm).symm]
        exact h1.1
      exact h2.set_ne (p := ⟨d, 3, none⟩) (h.ne_d hm) v
    inj := h.inj
    row := hr.kept (grown_set _ _ _ _) (.inr hvd)
    crow := hc
    there := ht
    cap := h.cap
    len := h.len
    size := h.size }
end

end Go.Proofs.YtnacjogdndggeaaGreatDoor
end
