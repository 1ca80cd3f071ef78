/- Layer 4 (disk): the names that begin with something. slices.Values, AppendSeq, Collect, Sorted over a slice of texts. Are texts unlike?. Layer 5 (seg): what a row tells without its disk. -/
import Derived.Test.YtnacjogdndggeaaGreatDoorZ14
import Derived.Test.YtnacjogdndggeaaGreatDoorZ02
import Derived.Test.YtnacjogdndggeaaGreatDoorZ15
import Derived.Shelf.SlicesE.DeleteFunc
import Derived.TacticsInMore
import Derived.RangeFuncBox
import Derived.RangeFuncLeaves
import Derived.Shelf.Abstract
import Derived.WalkKit
import Derived.OwnWalkIn
import Derived.LoopNIn
import Derived.LoopIn
import Derived.Maps.AppendAt
import Derived.Shelf.SlIter.Sorted
import Derived.Test.YtnacjogdndggeaaGreatDoorZ05
import Derived.Test.YtnacjogdndggeaaGreatDoorZ07
import Derived.Test.YtnacjogdndggeaaGreatDoorZ10
import Derived.Test.YtnacjogdndggeaaGreatDoorZ12
import Derived.BigQuiet
import Derived.Deep.QuietTactic
import Derived.Deep.MidRow
section
namespace Go.Proofs.YtnacjogdndggeaaGreatDoor
open Go.Shelf Go.RowKit Go.Lib Go.Sort

theorem bytes_lt {a b : List UInt8} (h : bytesBefore a b = true) : a < b := by
  induction a generalizing b with
  | nil =>
    cases b with
    | nil => cases h
    | cons y b => exact List.nil_lt_cons _ _
  | cons x a ih =>
    cases b with
    | nil => cases h
    | cons y b =>
      unfold bytesBefore at h
      rw [Bool.or_eq_true, Bool.and_eq_true, beq_iff_eq] at h
      rw [List.cons_lt_cons_iff]
      rcases h with h | ⟨h1, h2⟩
      · exact .inl (by simpa using h)
      · exact .inr ⟨h1, ih h2⟩

/-- Rising names, sorted, are what they were. -/
theorem sorted_names {l ss : List (List UInt8)} (h : l.Pairwise fun a b => bytesBefore a b = true) (hp : ss.Perm l) : ss.mergeSort (fun x y => decide (x ≤ y)) = l := by
  have hle : l.Pairwise fun a b => decide (a ≤ b) = true := h.imp fun {a b} hab => by
    have := bytes_lt hab
    simp only [decide_eq_true_iff]
    exact List.le_of_lt this
  have htr : ∀ a b c : List UInt8, decide (a ≤ b) = true → decide (b ≤ c) = true → decide (a ≤ c) = true := fun a b c h1 h2 => by
    simp only [decide_eq_true_iff] at *
    exact List.le_trans h1 h2
  have hto : ∀ a b : List UInt8, (decide (a ≤ b) || decide (b ≤ a)) = true := fun a b => by
    simp only [Bool.or_eq_true, decide_eq_true_iff]
    exact List.le_total a b
  have h1 := List.pairwise_mergeSort htr hto ss
  refine List.Perm.eq_of_pairwise (le := fun a b => decide (a ≤ b) = true) ?_ h1 hle ((List.mergeSort_perm ss _).trans hp)
  intro a b _ _ h2 h3
  simp only [decide_eq_true_iff] at h2 h3
  exact List.le_antisymm h2 h3

theorem row_shrink {w : World} {base : Nat} {e : TypeId} {size n cap : Nat} {A : Option Addr} {xs : List Value} (h : w.ownsRow base e size (.slice A n cap) n xs) (hA : A ≠ none) {k : Nat} (hk : k ≤ n) : w.ownsRow base e size (.slice A k cap) k (xs.take (k * size)) := by
  have hl := h.1
  rcases h.2 with ⟨h, _⟩ | ⟨g, cap', cur, e1, h1, h2, h3, h4, h5, h6⟩
  · injection h with h
    exact absurd h hA
  · injection e1 with e1 e2 e3
    subst e1 e3
    have hm : k * size ≤ n * size := Nat.mul_le_mul_right _ hk
    refine ⟨by rw [List.length_take]; omega, .inr ⟨g, cap, cur, rfl, h1, h2, Nat.le_trans hk h3, h4, h5, ?_⟩⟩
    rw [← h6, List.take_take, Nat.min_eq_left hm]

theorem encS (l : List UInt8) : encStr l = .string (S l) := rfl
set_option maxRecDepth 100000 in
set_option maxHeartbeats 1000000 in
theorem List1_any (l head : List UInt8) (fb : Nat) (w : World) (hc : w.cell? ⟨fb, 0, none⟩ = some (.string (S head))) :
    Calls Tryz.prog 177 #[.string (S l), .pointer (some ⟨fb, 0, none⟩)] w fun e w' => e = .returned (.bool (!Lib.hasPrefix l head)) ∧ w = w' := by
  have h := Tryz.strings_HasPrefix (S l) (S head) w
  rw [S_data, S_data] at h
  generalize Lib.hasPrefix l head = r at *
  go_enter Tryz.func177, Tryz.ntmps177
  go_wp2_with (fail)
  refine Calls.mono (show Calls _ _ _ _ _ from h) ?_
  rintro e w' ⟨rfl, rfl⟩
  go_wp2
  go_ret
  exact ⟨rfl, rfl⟩

theorem names_eq (D : Dsk) (head : List UInt8) : ((D.files.map (·.1)).filter fun x => !(!Lib.hasPrefix x head)) = D.names head := by
  unfold Dsk.names Lib.hasPrefix
  apply List.filter_congr
  intro x _
  simp

/-- A new slice that holds names. -/
def ListPost' (w : World) (l : List (List UInt8)) (e : Ending) (w' : World) : Prop := ∃ v, e = .returned v ∧ w'.ownsRow w.heap.size 9 1 v l.length (strVals l) ∧ Below w.heap.size w w'

set_option maxRecDepth 100000 in
set_option maxHeartbeats 1000000 in
theorem StrIndexFunc_nil {w : World} {fb : Nat} :
    Calls Tryz.prog 226 #[.slice none 0 0, .func (.func 177) #[] #[.pointer (some ⟨fb, 0, none⟩)]] w fun e w' => e = .returned (.int .i64 (-1)) ∧ w = w' := by
  go_enter Tryz.func226, Tryz.ntmps226
  go_wp2
  refine wp_loop_rounds 1 ?_
  rw [rounds_succ]
  go_wp2
  go_ret
  exact ⟨rfl, rfl⟩
set_option maxRecDepth 100000 in
set_option maxHeartbeats 1000000 in
theorem StrDeleteFunc_nil {w : World} {fb : Nat} :
    Calls Tryz.prog 176 #[.slice none 0 0, .func (.func 177) #[] #[.pointer (some ⟨fb, 0, none⟩)]] w fun e w' => e = .returned (.slice none 0 0) ∧ w = w' := by
  go_enter Tryz.func176, Tryz.ntmps176
  go_wp2_with (fail)
  refine StrIndexFunc_nil.mono ?_
  rintro e w1 ⟨rfl, rfl⟩
  go_wp2
  go_ret
  exact ⟨rfl, rfl⟩

/-- The names struck out that don't begin with something. -/
theorem StrDelete {w : World} {base : Nat} {v : Value} {l : List (List UInt8)} {fb : Nat} {head : List UInt8} (hr : w.ownsRow base 9 1 v l.length (l.map encStr)) (hc : w.cell? ⟨fb, 0, none⟩ = some (.string (S head))) (hfb : v.ownBlock ≠ some fb) :
    Calls Tryz.prog 176 #[v, .func (.func 177) #[] #[.pointer (some ⟨fb, 0, none⟩)]] w fun e w' => ∃ v', e = .returned v' ∧ w'.ownsRow base 9 1 v' (l.filter fun x => Lib.hasPrefix x head).length ((l.filter fun x => Lib.hasPrefix x head).map encStr) ∧ w.grownBy w' v.ownBlock := by
  rcases hr.2 with ⟨rfl, h0⟩ | ⟨g, cap, cur, rfl, h1, h2, h3, h4, h5, h6⟩
  · refine StrDeleteFunc_nil.mono ?_
    rintro e w' ⟨rfl, rfl⟩
    have : l = [] := List.eq_nil_of_length_eq_zero h0
    subst this
    exact ⟨_, rfl, World.ownsRow_nil _ _ _ _, World.grownBy.refl _ _⟩
  · have hcl := cell_lt hc
    have hne : fb ≠ g := fun e => hfb (by rw [e]; rfl)
    have eg := enters_of Tryz.func177 (by kernel_rfl) rfl
    have hp : PredAt Tryz.prog 177 #[.pointer (some ⟨fb, 0, none⟩)] encStr (fun x => !Lib.hasPrefix x head) w := fun W x hb => by
      unfold FnGives
      refine (List1_any x head fb W ((hb.cell (p := ⟨fb, 0, none⟩) hcl).trans hc)).mono ?_
      rintro e w' ⟨rfl, rfl⟩
      exact ⟨rfl, 0, rfl⟩
    have hpo : PredOver Tryz.prog 177 #[.pointer (some ⟨fb, 0, none⟩)] encStr (fun x => !Lib.hasPrefix x head) g 0 l.toArray.size w := fun n os dk x hd => by
      unfold FnGives
      have hcc : (sortWorld encStr w g 0 n dk os).cell? ⟨fb, 0, none⟩ = some (.string (S head)) := by
        unfold sortWorld
        have hg := grownBy_sorted (w := w) (g := g) (n := n) (os := os) dk
        exact (World.cell?_of_block (a := ⟨fb, 0, none⟩) (hg.block fb hcl (by simpa using hne))).trans hc
      refine (List1_any x head fb _ hcc).mono ?_
      rintro e w' ⟨rfl, rfl⟩
      exact ⟨rfl, 0, rfl⟩
    have hH : Holds encStr w g 0 l.toArray := holds_of_block h2 (by simpa using h6)
    have hD := Tryz.slices_DeleteFunc_f176 encStr (fun _ => rfl) (fun x => !Lib.hasPrefix x head) 177 #[.pointer (some ⟨fb, 0, none⟩)] eg [] (fun W => Tryz.zeroValue9 W) g 0 cap l.toArray w hp hpo hH (by simp; unfold maxLen at h4; omega) (by simpa using h3)
    simp only [List.size_toArray] at hD
    refine hD.mono ?_
    rintro e w' ⟨rfl, q, rfl⟩
    have hfl : (l.filter fun x => !(!Lib.hasPrefix x head)) = l.filter fun x => Lib.hasPrefix x head := List.filter_congr fun x _ => by simp
    rw [hfl]
    have hle := List.length_filter_le (fun x => Lib.hasPrefix x head) l
    have hrow := ownsRow_sorted (w := w) (base := base) (g := g) (cap := cap) (n := q) (os := #[]) (ss := l) (ts := (l.filter fun x => Lib.hasPrefix x head) ++ List.replicate (l.length - (l.filter fun x => Lib.hasPrefix x head).length) []) (by simp; omega) h1 h2 h3 h4 (by omega)
    rw [grow_empty] at hrow
    have hsh := row_shrink hrow (by simp) hle
    refine ⟨_, rfl, ?_, ?_⟩
    · rw [Nat.mul_one, List.map_append, List.take_append_of_le_length (by simp), List.take_of_length_le (by simp)] at hsh
      exact hsh
    · have := grownBy_sorted (w := w) (g := g) (n := q) (os := #[]) ((l.filter fun x => Lib.hasPrefix x head) ++ List.replicate (l.length - (l.filter fun x => Lib.hasPrefix x head).length) []).toArray
      rw [grow_empty] at this
      exact this

set_option maxRecDepth 100000 in
set_option maxHeartbeats 2000000 in
theorem DList_any {χ : Col} {c d : Nat} {D : Dsk} {w : World} (h : IsDk χ c w d D) (head : List UInt8) (hN : D.files.length ≤ 1000000000) :
    Calls Tryz.prog 115 #[.pointer (some ⟨d, 0, none⟩), .string (S head)] w (ListPost' w (D.names head)) := by
  obtain ⟨fm, blk, wv, h⟩ := h
  have hu := h.map.canon files_keyed
  have hrise : (D.files.map (·.1)).Pairwise fun a b => bytesBefore a b = true := by
    have := rises_of_canon (f := fun n (_ : FileC) => (.lit (.int .i64 (blk n)) : DataW Unit)) D.files hu
    rw [List.pairwise_map]
    exact this
  have hkeys : strKeys (filesD blk D.files) = D.files.map (·.1) := by
    show List.map (fun p : Lit × DataW Unit => strOf p.1) (List.map (fun p : List UInt8 × FileC => (Lit.string p.1, (DataW.lit (.int .i64 (blk p.1)) : DataW Unit))) D.files) = _
    rw [List.map_map]
    rfl
  have hsize : Maps.size (filesD blk D.files) = D.files.length := by
    show (List.map (fun p : List UInt8 × FileC => (Lit.string p.1, (DataW.lit (.int .i64 (blk p.1)) : DataW Unit))) D.files).length = _
    rw [List.length_map]
  have HB1 := Lib.hid ((Below.refl w.heap.size w).alloc (Nat.le_refl _) (.cells #[.string (S head)] 9))
  have h1 := h.stp (C := fun _ => False) ((Stp.refl _ χ w).alloc (.cells #[.string (S head)] 9)) (fun h => h)
  have hbn := Blk.new w #[.string (S head)] 9
  have hsz1 : (w.alloc (.cells #[.string (S head)] 9)).heap.size = w.heap.size + 1 := by simp
  have c2 := h1.own.1.cell 2
  have hm1 := h1.map
  clear h h1 hu
  refine (callsIn_wide (n := 6)).1 ?_
  have cK : ∀ mb W, CallsIn Fence.wide 5 Tryz.prog 175 #[.map mb] W fun e w' => e = .returned (.func (.func 225) #[] #[.pointer (some ⟨W.heap.size, 0, none⟩)]) ∧ w' = W.alloc (.cells #[.map mb] 72) := fun mb W => Tryz.maps_Keys_175 mb W
  have cS := Tryz.slices_Sorted_keys_81_175 fm _ _ Rp _ hm1 (by rw [hsize]; unfold maxLen; omega) (by rw [hsize]; omega)
  rw [hsz1] at cS
  have hf1 : Fence.wide.fn 175 := trivial
  have hf2 : Fence.wide.fn 81 := trivial
  refine callsIn_of_wp Tryz.func115 rfl trivial ?_ rfl
  simp only [Tryz.ntmps115, List.size_toArray, List.length_cons, List.length_nil, Nat.reduceAdd, Nat.reduceSub, Array.replicate_succ, Array.replicate_zero, List.push_toArray, List.append_toArray, List.nil_append, List.cons_append]
  gi_wp2_with (first
    | (gi_at_call 175; refine (cK _ _).mono ?_; rintro e w' ⟨rfl, rfl⟩)
    | (gi_at_call 81; refine cS.mono ?_; rintro e w' ⟨v, ss, rfl, hS, hrow, hnil, hb⟩))
  rw [hkeys] at hS
  rw [sorted_names hrise hS, hS.length_eq] at hrow
  have hcf : w'.cell? ⟨w.heap.size, 0, none⟩ = some (.string (S head)) := by
    rw [hb.cell (p := ⟨w.heap.size, 0, none⟩) (by simp; omega)]
    exact (hbn.alloc _).cell 0
  have hdel := StrDelete hrow hcf (fun e => by have := (hrow.lt _ e).1; simp at this; omega)
  refine ⟨trivial, (callsIn_wide.2 hdel).mono ?_⟩
  rintro e w2 ⟨v2, rfl, hr2, hg2⟩
  have hB2 : Below w.heap.size w w2 := ((HB1.out.alloc HB1.out.size _).trans (hb.mono (by simp; omega))).grown hg2 (by have := hb.size; simp at this; omega) (fun k hk => by have := (hrow.lt k hk).1; simp at this; omega)
  have hnm : ((D.files.map (·.1)).filter fun x => Lib.hasPrefix x head) = D.names head := by
    rw [← names_eq]
    exact List.filter_congr fun x _ => by simp
  rw [hnm] at hr2
  have HR2 := Lib.hid (ownsRow_base_a hr2 (base' := w.heap.size) (by simp; omega))
  have HB2 := Lib.hid hB2
  clear hr2 hB2 hdel hcf hrow hb hg2 hS
  gi_wp2
  go_ret
  exact ⟨_, rfl, HR2.out, HB2.out⟩

end Go.Proofs.YtnacjogdndggeaaGreatDoor
end

section
namespace Go.Proofs.YtnacjogdndggeaaGreatDoor
open Go.Shelf Go.RowKit Go.Maps Go.Sort
set_option maxRecDepth 100000
set_option maxHeartbeats 2000000

attribute [local go_sem] Oper.semAt_some

/-- A slice's cells are texts, in a block below n. -/
def Rn (n : Nat) (W : World) (A : Option Addr) (zs : List (List UInt8)) : Prop := ∀ j (hj : j < zs.length), ∃ b o, A = some ⟨b, o, none⟩ ∧ b < n ∧ W.cell? ⟨b, o + j, none⟩ = some (.string (S zs[j]))
theorem Rn.below {n : Nat} {W W' : World} {A : Option Addr} {zs : List (List UInt8)} (h : Rn n W A zs) (hb : Below n W W') : Rn n W' A zs := fun j hj => by
  obtain ⟨b, o, hA, hlt, hc⟩ := h j hj
  exact ⟨b, o, hA, hlt, (hb.cell (p := ⟨b, o + j, none⟩) hlt).trans hc⟩
theorem Rn.of {w : World} {A : Option Addr} {zs : List (List UInt8)} (h : RSa w A zs) : Rn w.heap.size w A zs := fun j hj => by
  obtain ⟨b, o, hA, hc⟩ := h j hj
  have hg : zs.getD j [] = zs[j] := by simp [List.getD_eq_getElem?_getD, hj]
  rw [hg] at hc
  exact ⟨b, o, hA, cell_lt hc, hc⟩

theorem vals1_in (n : Nat) (hn : 1 ≤ n) (l Bs n₀ : Nat) (A : Option Addr) (c : Nat) (zs : List (List UInt8)) (hl : zs.length ≤ 1000000) (J Jx : List (List UInt8) → World → Prop)
    (hY : ∀ pre x W, J pre W → pre.length < zs.length → YieldAt Fence.wide (n - 1) Tryz.prog l #[.string (S x)] W fun e W' =>
      (e = .returned (.bool true) ∧ J (pre ++ [x]) W' ∧ Below n₀ W W') ∨ (e = .returned (.bool false) ∧ Jx (pre ++ [x]) W'))
    (W : World) (hBs : W.cell? ⟨Bs, 0, none⟩ = some (.slice A zs.length c)) (hc : Rn n₀ W A zs) (h0 : J [] W) :
    CallsIn Fence.wide n Tryz.prog 141 #[.func (.yield l) #[] #[], .pointer (some ⟨Bs, 0, none⟩)] W fun e W' => (∃ v, e = .returned v) ∧
      ((∃ ys, ys = zs ∧ J ys W') ∨ (∃ pre, pre <+: zs ∧ Jx pre W')) := by
  have HC := Lib.hid hc
  clear hc
  refine callsIn_of_wp Tryz.func141 rfl trivial ?_ rfl
  simp only [Tryz.ntmps141, List.size_toArray, List.length_cons, List.length_nil, Nat.reduceAdd, Nat.reduceSub, Array.replicate_succ, Array.replicate_zero, List.push_toArray, List.append_toArray, List.nil_append, List.cons_append]
  gi_wp2
  gi_loopw [7] (fun i wr => ∃ k : Nat, k ≤ zs.length ∧ i = .int .i64 k ∧ J (zs.take k) wr ∧ Below n₀ W wr)
    (fun i _ => zs.length - (RowKit.intOf i).toNat)
  case atStart => exact ⟨0, Nat.zero_le _, rfl, h0, Below.refl _ _⟩
  case round =>
    obtain ⟨k, hk, rfl, hJs, hnx⟩ := hrel
    by_cases hlt : k < zs.length
    · obtain ⟨b, o, rfl, hb, hcx⟩ := (HC.out.below hnx) k hlt
      have HT := Lib.hid (List.take_succ_eq_append_getElem hlt)
      have hlen : (zs.take k).length < zs.length := by rw [List.length_take]; omega
      generalize zs[k] = x at *
      obtain ⟨fn, tmps, assign, body, hy, hR⟩ := hY _ x wr hJs hlen
      clear hlen
      gi_wp2
      refine hR.mono ?_
      rintro e W3 (⟨rfl, hJ3, hk3⟩ | ⟨rfl, hJx3⟩)
      · gi_wp2
        go_roundw
        case rel => exact ⟨k + 1, by omega, by simp, by rw [HT.out]; exact hJ3, hnx.trans hk3⟩
        case measure => simp [RowKit.intOf]; omega
      · gi_wp2
        refine bodyPost_ret (results_none rfl _ _ _) rfl ?_
        exact ⟨⟨_, rfl⟩, .inr ⟨_, by rw [← HT.out]; exact List.take_prefix _ _, hJx3⟩⟩
    · obtain rfl : k = zs.length := by omega
      gi_wp2
      go_end0
      exact ⟨⟨_, rfl⟩, .inl ⟨_, List.take_length, hJs⟩⟩

theorem vals_stops (n : Nat) (hn : 1 ≤ n) (Bs n₀ : Nat) (A : Option Addr) (c : Nat) (zs : List (List UInt8)) (hl : zs.length ≤ 1000000) (w : World) (hBs : Bs < w.heap.size) (hn₀ : n₀ ≤ w.heap.size)
    (hc : w.cell? ⟨Bs, 0, none⟩ = some (.slice A zs.length c)) (hI : Rn n₀ w A zs) :
    SeqStopsK Fence.wide n Tryz.prog 141 #[.pointer (some ⟨Bs, 0, none⟩)] (fun x : List UInt8 => #[Value.string (S x)]) (Below n₀) (fun ys => ys = zs) (fun pre => pre <+: zs) zs.length w := fun l J Jx W hW _ _ hY h0 =>
  vals1_in n hn l Bs n₀ A c zs hl J Jx hY W ((hW.cell (p := ⟨Bs, 0, none⟩) hBs).trans hc) (hI.below (hW.mono hn₀)) h0

theorem appendVals_in (n : Nat) (hn : 3 ≤ n) (Bs : Nat) (A : Option Addr) (c : Nat) (zs : List (List UInt8)) (hl : zs.length ≤ 1000000) (w : World) (hBs : Bs < w.heap.size) (hc : w.cell? ⟨Bs, 0, none⟩ = some (.slice A zs.length c)) (hI : Rn w.heap.size w A zs) :
    CallsIn Fence.wide n Tryz.prog 200 #[.slice none 0 0, .func (.func 141) #[] #[.pointer (some ⟨Bs, 0, none⟩)]] w fun e W' =>
      ∃ v, e = .returned v ∧ W'.ownsRow w.heap.size 9 1 v zs.length (zs.map fun x => Value.string (S x)) ∧ (v = .slice none 0 0 ↔ zs = []) ∧ Below w.heap.size w W' := by
  have h1 : 1 ≤ n := by omega
  obtain ⟨i0, hi, hz0, hz1, hz2⟩ := info_parts infoStr
  refine callsIn_of_wp_marks Tryz.func200 rfl trivial ?_ rfl
  simp only [Tryz.ntmps200, List.size_toArray, List.length_cons, List.length_nil, Nat.reduceAdd, Nat.reduceSub, Array.replicate_succ, Array.replicate_zero, List.push_toArray, List.append_toArray, List.nil_append, List.cons_append]
  gi_wp2
  have bO := Boxed.new w 31 (.slice none 0 0)
  have hB0 : Below w.heap.size w (w.alloc (.cells #[.slice none 0 0] 31)) := (Below.refl _ w).alloc (Nat.le_refl _) _
  refine wpIn_rangeFunc_ownG rfl h1 (gf := 141) (lb := #[.pointer (some ⟨Bs, 0, none⟩)]) rfl trivial (enters_of Tryz.func141 (by kernel_rfl) rfl)
    (vals_stops (n - 1) (by omega) Bs w.heap.size A c zs hl _ (by simp; omega) (by simp) ((hB0.cell (p := ⟨Bs, 0, none⟩) hBs).trans hc) (hI.below hB0)) belowK_t (belowK_b (by simp)) (Below.refl _ _) (fun _ => rfl)
    (fun pre W => (∃ v, Boxed W w.heap.size 31 v ∧ W.ownsRow w.heap.size 9 1 v pre.length (pre.map fun x => Value.string (S x)) ∧ (v = .slice none 0 0 ↔ pre = [])) ∧ Below w.heap.size w W)
    (fun _ _ _ => False)
    (OwnFrom.and (Own.from (holdsRow_own w.heap.size w.heap.size 31 9 1 (fun pre => pre.length) (fun pre : List (List UInt8) => pre.map fun x => Value.string (S x)) (fun pre v => v = .slice none 0 0 ↔ pre = [])) _) (ownFrom_below (Nat.le_refl _) (by simp)))
    (fun _ _ _ _ _ hs _ _ => hs)
    ⟨⟨_, bO, World.ownsRow_nil _ _ _ _, by simp⟩, hB0⟩
    (fun x => { tmps := #[.slice none 0 0, .func (.func 141) #[] #[.pointer (some ⟨Bs, 0, none⟩)], .pointer (some ⟨w.heap.size, 0, none⟩), undef, .slice none 0 0, .string (S x), .func (.func 141) #[] #[.pointer (some ⟨Bs, 0, none⟩)], .string (S x), undef, undef, undef, undef, undef], defers := [] }) ?assign ?body ?done ?stop
  case assign =>
    intro l x W K hK
    gi_wp2
    exact hK
  case body =>
    rintro l pre x W ⟨⟨v, hv, hrow, hnil⟩, hB⟩ hlt
    have hc := hv.cell
    gi_wp2_with (gi_at_builtin; refine wpListIn_append_own _ rfl _ _ 31 rfl w.heap.size 9 i0 (.string ⟨#[]⟩) 1 16 Tryz.underlying31 hi hz0 hz1 hz2 rfl (by decide) _ _ _ rfl (hrow.alloc _) ⟨W.heap.size, 0, none⟩ 1 1 [.string (S x)] rfl rfl (cell_one_new _ _ _) (by simp [Value.oneCell']) (by unfold maxLen; omega) (by omega) (by have := hB.size; simp; omega) ?_; intro v' w1 hown' hgrow _; obtain ⟨g', cap', rfl⟩ := ownsRow_succ hown'; obtain ⟨hv1, hv2, hr2, hk2, hb2⟩ := hv.appended (by decide) hrow hB.size (Nat.le_refl _) hown' hgrow; have hc1 := hv1.cell; have hf1 := hv1.frozen)
    exact ⟨hk2.from _, hb2, ⟨_, hv2, by simpa using hr2, by simp⟩, hB.trans hb2⟩
  case done =>
    rintro D ys W hD rfl ⟨⟨v, hv, hrow, hnil⟩, hB⟩ hK
    have hc := hv.cell
    gi_wp2
    refine ⟨by simp, .inl ⟨_, _, rfl, run_takeDeferred hK, ?_⟩⟩
    exact ⟨_, results_tmp rfl _ _ _, v, rfl, ownsRow_putObj hrow _ hK rfl, hnil, hB.trans (belowK_b (w := w) (Nat.le_refl _) W D _ _ (by simp at hD; omega) hK rfl rfl)⟩
  case stop =>
    rintro D c pre W _ _ h _
    exact h.elim

theorem Collect_vals (Bs : Nat) (A : Option Addr) (c : Nat) (zs : List (List UInt8)) (hl : zs.length ≤ 1000000) (w : World) (hBs : Bs < w.heap.size) (hc : w.cell? ⟨Bs, 0, none⟩ = some (.slice A zs.length c)) (hI : RSa w A zs) :
    Calls Tryz.prog 139 #[.func (.func 141) #[] #[.pointer (some ⟨Bs, 0, none⟩)]] w fun e W' =>
      ∃ v, e = .returned v ∧ W'.ownsRow w.heap.size 9 1 v zs.length (zs.map encStr) ∧ (v = .slice none 0 0 ↔ zs = []) ∧ Below w.heap.size w W' := by
  have hA := (callsIn_wide (n := 5)).1 (appendVals_in 5 (by omega) Bs A c zs hl w hBs hc (Rn.of hI))
  clear hI hc
  go_enter Tryz.func139, Tryz.ntmps139
  go_wp2_with (fail)
  refine hA.mono ?_
  rintro e w1 ⟨v, rfl, hv, hn, hb⟩
  go_wp2
  go_ret
  exact ⟨v, rfl, hv, hn, hb⟩

theorem Sorted_vals (Bs : Nat) (A : Option Addr) (c : Nat) (zs : List (List UInt8)) (hl : zs.length ≤ 1000000) (w : World) (hBs : Bs < w.heap.size) (hc : w.cell? ⟨Bs, 0, none⟩ = some (.slice A zs.length c)) (hI : RSa w A zs) :
    Calls Tryz.prog 81 #[.func (.func 141) #[] #[.pointer (some ⟨Bs, 0, none⟩)]] w fun e W' =>
      ∃ v, e = .returned v ∧ W'.ownsRow w.heap.size 9 1 v zs.length ((zs.mergeSort fun x y => decide (x ≤ y)).map encStr) ∧ (v = .slice none 0 0 ↔ zs = []) ∧ Below w.heap.size w W' := by
  have hC := Collect_vals Bs A c zs hl w hBs hc hI
  clear hI hc
  go_enter Tryz.func81, Tryz.ntmps81
  go_wp2_with (fail)
  refine hC.mono ?_
  rintro e W ⟨v, rfl, hrow, hnil, hb⟩
  clear hC
  rcases hrow.2 with ⟨rfl, hz⟩ | ⟨gb, cap, cur, rfl, hbase, hgb, r1, r2, r3, r4⟩
  · have hss : zs = [] := List.eq_nil_of_length_eq_zero hz
    subst hss
    go_wp2_with (fail)
    refine (Tryz.slices_Sort_string_none none 0 W).mono ?_
    rintro e w' ⟨rfl, rfl⟩
    go_wp2
    go_ret
    exact ⟨.slice none 0 0, rfl, by simpa using hrow, by simp, hb⟩
  · have hH : Holds encStr W gb 0 zs.toArray := holds_of_block hgb (by simpa using r4)
    have hgl : gb < W.heap.size := (Array.getElem?_eq_some_iff.1 hgb).1
    have cS := Tryz.slices_Sort_string gb 0 cap zs W hH hgl (by omega)
    have HO := Lib.hid (fun (nn : Nat) (os : Array Obj) => And.intro (ownsRow_sorted (w := W) (n := nn) (os := os) (ss := zs) (ts := zs.mergeSort fun x y => decide (x ≤ y)) (by simp) hbase hgb r1 r2 r3) (hb.grown (grownBy_sorted (w := W) (g := gb) (n := nn) (os := os) (zs.mergeSort fun x y => decide (x ≤ y)).toArray) hb.size (fun j hj => by cases hj; exact hbase)))
    clear hH hgb r1 r2 r3 r4 hrow hb
    go_wp2_with (fail)
    refine cS.mono ?_
    rintro e w' ⟨rfl, nn, os, rfl⟩
    have h1 := (HO.out nn os).1
    have h2 := (HO.out nn os).2
    generalize grow _ os = W9 at *
    go_wp2
    go_ret
    exact ⟨_, rfl, h1, hnil, h2⟩

theorem Values_any (A : Option Addr) (n c : Nat) (w : World) :
    Calls Tryz.prog 82 #[.slice A n c] w fun e w' => e = .returned (.func (.func 141) #[] #[.pointer (some ⟨w.heap.size, 0, none⟩)]) ∧ w' = w.alloc (.cells #[.slice A n c] 31) := by
  go_enter Tryz.func82, Tryz.ntmps82
  go_wp2
  go_ret
  exact ⟨rfl, rfl⟩

end Go.Proofs.YtnacjogdndggeaaGreatDoor
end

section
namespace Go.Proofs.YtnacjogdndggeaaGreatDoor
open Go.Shelf Go.RowKit Go.Lib Go.Sort
set_option maxRecDepth 100000
set_option maxHeartbeats 1000000

theorem grownBy_put {w : World} {g n : Nat} (d : Array (List UInt8)) : w.grownBy (putRow encStr (Sort.ahead w n) g 0 d) (some g) := by
  refine ⟨rfl, rfl, rfl, by simp, fun k hk hne => ?_⟩
  have : g ≠ k := fun e => hne (by rw [e])
  simp [putRow, mapBlock, Sort.ahead, Array.getElem?_modify, this]

theorem compact_all (t : List (List UInt8)) : (Lib.compact t).length = t.length ↔ ∀ j (hj : j + 1 < t.length), t[j + 1] ≠ t[j] := by
  unfold Lib.compact Lib.compactUpTo
  rw [List.length_map]
  have h1 : ((List.range t.length).filter (Lib.keeps t.toArray)).length = t.length ↔ ∀ j ∈ List.range t.length, Lib.keeps t.toArray j = true := by
    conv => lhs; rhs; rw [← List.length_range (n := t.length)]
    exact List.length_filter_eq_length_iff
  rw [h1]
  constructor
  · intro h j hj
    have := h (j + 1) (List.mem_range.2 hj)
    unfold Lib.keeps at this
    simp only [decide_eq_true_iff] at this
    rcases this with h0 | h0
    · omega
    · have e1 : t.toArray[j + 1]! = t[j + 1] := by simp [hj]
      have e2 : t.toArray[j + 1 - 1]! = t[j] := by simp [show j < t.length by omega]
      rwa [e1, e2] at h0
  · intro h j hj
    rw [List.mem_range] at hj
    unfold Lib.keeps
    simp only [decide_eq_true_iff]
    cases j with
    | zero => exact .inl rfl
    | succ j =>
      right
      have e1 : t.toArray[j + 1]! = t[j + 1] := by simp [hj]
      have e2 : t.toArray[j + 1 - 1]! = t[j] := by simp [show j < t.length by omega]
      rw [e1, e2]
      exact h j hj

theorem nodup_sorted {t : List (List UInt8)} (hs : t.Pairwise fun a b => a ≤ b) : t.Nodup ↔ ∀ j (hj : j + 1 < t.length), t[j + 1] ≠ t[j] := by
  constructor
  · intro h j hj e
    have := (List.pairwise_iff_getElem.1 h) j (j + 1) (by omega) hj (by omega)
    exact this e.symm
  · intro h
    unfold List.Nodup
    rw [List.pairwise_iff_getElem]
    intro i j hi hj hij e
    rw [List.pairwise_iff_getElem] at hs
    have h1 : t[i] ≤ t[i + 1] := hs i (i + 1) hi (by omega) (by omega)
    have h2 : t[i + 1] ≤ t[i] := by
      rcases Nat.lt_or_ge (i + 1) j with h3 | h3
      · rw [e]
        exact hs (i + 1) j (by omega) hj h3
      · have : j = i + 1 := by omega
        subst this
        rw [e]
        exact List.le_refl _
    exact h i (by omega) (List.le_antisymm h2 h1)

theorem compact_nodup (ts : List (List UInt8)) : (Lib.compact (ts.mergeSort fun x y => decide (x ≤ y))).length = ts.length ↔ ts.Nodup := by
  have htr : ∀ a b c : List UInt8, decide (a ≤ b) = true → decide (b ≤ c) = true → decide (a ≤ c) = true := fun a b c h1 h2 => by
    simp only [decide_eq_true_iff] at *
    exact List.le_trans h1 h2
  have hto : ∀ a b : List UInt8, (decide (a ≤ b) || decide (b ≤ a)) = true := fun a b => by
    simp only [Bool.or_eq_true, decide_eq_true_iff]
    exact List.le_total a b
  have h1 := (List.pairwise_mergeSort htr hto ts).imp (S := fun a b => a ≤ b) (fun {a b} h => by simpa using h)
  have hp := List.mergeSort_perm ts (fun x y => decide (x ≤ y))
  have hl : ts.length = (ts.mergeSort fun x y => decide (x ≤ y)).length := hp.length_eq.symm
  rw [hl, compact_all, ← nodup_sorted h1]
  exact hp.nodup_iff

theorem unlike_send (A : Option Addr) (c : Nat) (ts : List (List UInt8)) (w : World) (hr : RSa w A ts) (hl : ts.length ≤ 1000) :
    Calls Tryz.prog 39 #[.slice A ts.length c] w fun e w' => e = .returned (.bool (decide ts.Nodup)) ∧ Below w.heap.size w w' := by
  have HD := Lib.hid (compact_nodup ts)
  have hlen : (ts.mergeSort fun x y => decide (x ≤ y)).length = ts.length := by simp
  have hB := (Below.refl w.heap.size w).alloc (Nat.le_refl _) (.cells #[.slice A ts.length c] 31)
  have hS := Sorted_vals w.heap.size A c ts (by omega) (w.alloc (.cells #[.slice A ts.length c] 31)) (by simp) ((Blk.new w #[.slice A ts.length c] 31).cell 0) (hr.below hB)
  have HB := Lib.hid hB
  clear hr hB
  go_enter Tryz.func39, Tryz.ntmps39
  go_wp2_with (fail)
  refine (Values_any A ts.length c w).mono ?_
  rintro e w1 ⟨rfl, rfl⟩
  go_wp2_with (fail)
  refine hS.mono ?_
  rintro e w2 ⟨v, rfl, hv, hnil, hb⟩
  have HB2 := Lib.hid (HB.out.trans (hb.mono HB.out.size))
  have hbs := hb.size
  simp only [World.size_alloc] at hbs
  clear hb hS
  rcases hv.2 with ⟨rfl, hz⟩ | ⟨gb, cap, cur, rfl, hbase, hgb, r1, r2, r3, r4⟩
  · have hss : ts = [] := List.eq_nil_of_length_eq_zero hz
    subst hss
    clear hv
    go_wp2_with (fail)
    refine (Tryz.slices_Compact_string_empty none 0 w2).mono ?_
    rintro e w' ⟨rfl, rfl⟩
    go_wp2
    go_ret
    exact ⟨rfl, HB2.out⟩
  · have hH : Holds encStr w2 gb 0 (ts.mergeSort fun x y => decide (x ≤ y)).toArray := holds_of_block hgb (by rw [hlen]; simpa using r4)
    have hC := Tryz.slices_Compact_string gb 0 cap (ts.mergeSort fun x y => decide (x ≤ y)) w2 hH (by rw [hlen]; omega) (by rw [hlen]; exact r1)
    rw [hlen] at hC
    have HG := Lib.hid (fun (q : Nat) (d : Array (List UInt8)) => HB2.out.grown (grownBy_put (w := w2) (g := gb) (n := q) d) HB2.out.size (fun j hj => by cases hj; simp only [World.size_alloc] at hbase; omega))
    clear hH hgb r1 r2 r3 r4 hv hbase hbs
    generalize Lib.compact (ts.mergeSort fun x y => decide (x ≤ y)) = cs at *
    go_wp2_with (fail)
    refine hC.mono ?_
    rintro e w' ⟨rfl, q, rfl⟩
    have h3 := HG.out q (cs ++ List.replicate (ts.length - cs.length) []).toArray
    generalize putRow encStr (Sort.ahead w2 q) gb 0 (cs ++ List.replicate (ts.length - cs.length) []).toArray = w3 at *
    clear hC
    go_wp2
    go_ret
    exact ⟨ret_bool (by rw [Bool.eq_iff_iff]; simp [← HD.out]; omega), h3⟩

theorem unlike_rec (A : Option Addr) (c : Nat) (ts : List (List UInt8)) (w : World) (hr : RSa w A ts) (hl : ts.length ≤ 1000) :
    Calls Tryz.prog 238 #[.slice A ts.length c] w fun e w' => e = .returned (.bool (decide ts.Nodup)) ∧ Below w.heap.size w w' := by
  have HD := Lib.hid (compact_nodup ts)
  have hlen : (ts.mergeSort fun x y => decide (x ≤ y)).length = ts.length := by simp
  have hB := (Below.refl w.heap.size w).alloc (Nat.le_refl _) (.cells #[.slice A ts.length c] 31)
  have hS := Sorted_vals w.heap.size A c ts (by omega) (w.alloc (.cells #[.slice A ts.length c] 31)) (by simp) ((Blk.new w #[.slice A ts.length c] 31).cell 0) (hr.below hB)
  have HB := Lib.hid hB
  clear hr hB
  go_enter Tryz.func238, Tryz.ntmps238
  go_wp2_with (fail)
  refine (Values_any A ts.length c w).mono ?_
  rintro e w1 ⟨rfl, rfl⟩
  go_wp2_with (fail)
  refine hS.mono ?_
  rintro e w2 ⟨v, rfl, hv, hnil, hb⟩
  have HB2 := Lib.hid (HB.out.trans (hb.mono HB.out.size))
  have hbs := hb.size
  simp only [World.size_alloc] at hbs
  clear hb hS
  rcases hv.2 with ⟨rfl, hz⟩ | ⟨gb, cap, cur, rfl, hbase, hgb, r1, r2, r3, r4⟩
  · have hss : ts = [] := List.eq_nil_of_length_eq_zero hz
    subst hss
    clear hv
    go_wp2_with (fail)
    refine (Tryz.slices_Compact_string_empty none 0 w2).mono ?_
    rintro e w' ⟨rfl, rfl⟩
    go_wp2
    go_ret
    exact ⟨rfl, HB2.out⟩
  · have hH : Holds encStr w2 gb 0 (ts.mergeSort fun x y => decide (x ≤ y)).toArray := holds_of_block hgb (by rw [hlen]; simpa using r4)
    have hC := Tryz.slices_Compact_string gb 0 cap (ts.mergeSort fun x y => decide (x ≤ y)) w2 hH (by rw [hlen]; omega) (by rw [hlen]; exact r1)
    rw [hlen] at hC
    have HG := Lib.hid (fun (q : Nat) (d : Array (List UInt8)) => HB2.out.grown (grownBy_put (w := w2) (g := gb) (n := q) d) HB2.out.size (fun j hj => by cases hj; simp only [World.size_alloc] at hbase; omega))
    clear hH hgb r1 r2 r3 r4 hv hbase hbs
    generalize Lib.compact (ts.mergeSort fun x y => decide (x ≤ y)) = cs at *
    go_wp2_with (fail)
    refine hC.mono ?_
    rintro e w' ⟨rfl, q, rfl⟩
    have h3 := HG.out q (cs ++ List.replicate (ts.length - cs.length) []).toArray
    generalize putRow encStr (Sort.ahead w2 q) gb 0 (cs ++ List.replicate (ts.length - cs.length) []).toArray = w3 at *
    clear hC
    go_wp2
    go_ret
    exact ⟨ret_bool (by rw [Bool.eq_iff_iff]; simp [← HD.out]; omega), h3⟩

end Go.Proofs.YtnacjogdndggeaaGreatDoor
end

section
namespace Go.Proofs.YtnacjogdndggeaaGreatDoor
open Go.Shelf Go.RowKit Go.Lib Go.BigFrame

theorem natV_get (l : List Nat) (j : Nat) (h : j < l.length) : (natV l)[j]? = some (.int .i64 (l[j] : Int)) := by
  simp [natV, h]
/-- The cell of a place. -/
theorem RowAt.place {χ : Col} {c r d : Nat} {w : World} {R : RowM} {pv : Value} (h : RowAt χ c w r d R pv) {i : Nat} (hi : i < R.many) : ∃ g cap, pv = .slice (some ⟨g, 0, none⟩) R.many cap ∧ w.cell? ⟨g, i, none⟩ = some (.int .i64 (R.place i : Int)) := by
  rcases h.row.2 with ⟨_, h0⟩ | ⟨g, cap, cur, rfl, _⟩
  · omega
  · refine ⟨g, cap, rfl, ?_⟩
    have hl : i < R.places.length := by rw [R.places_length]; exact hi
    have := h.row.cells (g := g) rfl i _ (natV_get R.places i hl)
    rw [Addr.add_mid, Nat.zero_add] at this
    rw [this]
    have h2 := R.places_getD hi
    rw [List.getD_eq_getElem?_getD, List.getElem?_eq_getElem hl] at h2
    simp only [Option.getD_some] at h2
    rw [h2]

theorem RowAt.drewN {χ : Col} {c r d : Nat} {w : World} {R : RowM} {pv : Value} (h : RowAt χ c w r d R pv) (n : Nat) : RowAt χ c (w.drewN n) r d R pv := h.stp (C := fun _ => False) (Stp.of_below ⟨rfl, rfl, rfl, Nat.le_refl _, fun _ _ => rfl⟩) (fun h => h)
theorem IsRow.drewN {χ : Col} {c r d : Nat} {w : World} {R : RowM} (h : IsRow χ c w r d R) (n : Nat) : IsRow χ c (w.drewN n) r d R := by
  obtain ⟨pv, h⟩ := h
  exact ⟨pv, h.drewN n⟩
theorem IsRow.below {χ : Col} {c r d : Nat} {w w' : World} {R : RowM} (h : IsRow χ c w r d R) (s : Below w.heap.size w w') : IsRow χ c w' r d R := h.stp (C := fun _ => False) (Stp.of_below s) (fun h => h)
theorem below_drewN (w : World) (n : Nat) : Below w.heap.size w (w.drewN n) := ⟨rfl, rfl, rfl, Nat.le_refl _, fun _ _ => rfl⟩

section
variable {χ : Col} {c r d : Nat} {w : World} {R : RowM}
set_option maxRecDepth 100000
set_option maxHeartbeats 1000000

theorem Begin_any (h : IsRow χ c w r d R) (hz : R.many = 0 → R.begin = 0) :
    Calls Tryz.prog 30 #[.pointer (some ⟨r, 0, none⟩)] w fun e w' => e = .returned (.int .i64 R.begin) ∧ w = w' := by
  obtain ⟨pv, h⟩ := h
  have c3 := h.own.1.cell 3
  by_cases h0 : R.many = 0
  · have hb := hz h0
    obtain ⟨A, cap, rfl⟩ := row_any h.row
    rw [h0] at c3
    rw [hb]
    clear h hz hb h0
    go_enter Tryz.func30, Tryz.ntmps30
    go_wp2
    go_ret
    exact ⟨rfl, rfl⟩
  · obtain ⟨g, cap, rfl, cp⟩ := h.place (i := 0) (by omega)
    rw [show R.place 0 = R.begin by unfold RowM.place; omega] at cp
    have hp : (0 : Nat) < R.many := by omega
    have hn : ((R.many : Int) == 0) = false := beq_eq_false_iff_ne.2 (by omega)
    generalize R.many = m at *
    clear h hz h0
    go_enter Tryz.func30, Tryz.ntmps30
    go_wp2
    go_ret
    exact ⟨rfl, rfl⟩

theorem End_row (h : IsRow χ c w r d R) :
    Calls Tryz.prog 27 #[.pointer (some ⟨r, 0, none⟩)] w fun e w' => e = .returned (.int .i64 R.fin) ∧ w = w' := by
  obtain ⟨pv, h⟩ := h
  have c4 := h.own.1.cell 4
  clear h
  go_enter Tryz.func27, Tryz.ntmps27
  go_wp2
  go_ret
  exact ⟨rfl, rfl⟩

theorem Synced_row (h : IsRow χ c w r d R) :
    Calls Tryz.prog 254 #[.pointer (some ⟨r, 0, none⟩)] w fun e w' => e = .returned (.int .i64 R.synced) ∧ w = w' := by
  obtain ⟨pv, h⟩ := h
  have c5 := h.own.1.cell 5
  clear h
  go_enter Tryz.func254, Tryz.ntmps254
  go_wp2
  go_ret
  exact ⟨rfl, rfl⟩

theorem of_any (h : IsRow χ c w r d R) (ho : R.Ok) (a : Nat) (ha : a ≤ 4611686018427387904) :
    Calls Tryz.prog 66 #[.pointer (some ⟨r, 0, none⟩), .int .i64 a] w fun e w' => e = .returned (.int .i64 ((a / R.size * R.size : Nat) : Int)) ∧ ∃ n, w' = w.drewN n := by
  obtain ⟨pv, h⟩ := h
  have c2 := h.own.1.cell 2
  have hs := ho.size
  have h1 : (1 : Int) ≤ R.size := by omega
  have hle : a / R.size * R.size ≤ a := Nat.div_mul_le_self _ _
  have hq : a / R.size ≤ a := Nat.div_le_self _ _
  have hg : (0 : Int) ≤ (a : Int) / (R.size : Int) := Int.ediv_nonneg (by omega) (by omega)
  have hw1 : wrap64 ((a : Int) / (R.size : Int)) = ((a / R.size : Nat) : Int) := by
    rw [show (a : Int) / (R.size : Int) = ((a / R.size : Nat) : Int) by simp]
    exact IntWalk.wrap64_in _ (by omega)
  have hw2 : wrap64 (((a / R.size : Nat) : Int) * (R.size : Int)) = ((a / R.size * R.size : Nat) : Int) := by
    rw [show ((a / R.size : Nat) : Int) * (R.size : Int) = ((a / R.size * R.size : Nat) : Int) by simp]
    exact IntWalk.wrap64_in _ (by omega)
  have HW := Lib.hid (And.intro hw1 hw2)
  clear h hw1 hw2 hle hq hg
  go_enter Tryz.func66, Tryz.ntmps66
  go_wp2
  go_quiet (fail)
  all_goals
    rw [HW.out.1, HW.out.2]
    go_wp2
    go_ret
    exact ⟨rfl, nq, rfl⟩

theorem Room_row (h : IsRow χ c w r d R) (ho : R.Ok) :
    Calls Tryz.prog 203 #[.pointer (some ⟨r, 0, none⟩)] w fun e w' => e = .returned (.int .i64 R.room) ∧ ∃ n, w' = w.drewN n := by
  obtain ⟨pv, h⟩ := h
  have c2 := h.own.1.cell 2
  have c3 := h.own.1.cell 3
  have c4 := h.own.1.cell 4
  have hs := ho.size
  have hfin := ho.fin
  by_cases h0 : R.many = 0
  · have hr : R.room = R.size := by
      have := ho.upto
      rw [h0] at this
      unfold RowM.room RowM.fin RowM.place
      rw [h0, if_neg (by omega)]
    obtain ⟨A, cap, rfl⟩ := row_any h.row
    rw [h0] at c3
    rw [hr]
    clear h h0 hr
    go_enter Tryz.func203, Tryz.ntmps203
    go_wp2
    go_quiet (fail)
    all_goals
      go_wp2
      go_ret
      exact ⟨rfl, nq, rfl⟩
  · obtain ⟨g, cap, rfl, cp⟩ := h.place (i := R.many - 1) (by omega)
    have hle := R.fin_le ho
    have hpl := R.place_le ho (by omega)
    have hpt := R.place_last (by omega)
    have hup := ho.upto
    have hle2 : R.place (R.many - 1) ≤ 90000000 := by omega
    have hm : R.many ≤ 90000000 := by
      have h1 := ho.least (by omega)
      have h2 : R.bytes.length ≤ 90000000 := by unfold RowM.fin at hfin; omega
      have h3 : (R.many - 1) * 16 ≤ (R.many - 1) * R.size := Nat.mul_le_mul_left _ hs.1
      omega
    have hp : R.many - 1 < R.many := by omega
    have hpi : (0 : Int) < R.many := by omega
    have hpn : 0 < R.many := by omega
    have hroom : R.room = if R.fin < R.place (R.many - 1) + R.size then R.place (R.many - 1) + R.size - R.fin else R.size := by
      unfold RowM.room
      rw [hpt]
    rw [hroom]
    have hfb : R.fin ≤ 90000000 := hfin
    clear hroom h ho hle hpl hpt hup h0 hfin
    generalize hP : R.place (R.many - 1) = p at *
    generalize R.many = m at *
    generalize R.fin = f at *
    generalize R.size = sz at *
    clear hP
    by_cases hlt : f < p + sz
    · rw [if_pos hlt]
      have hli : (f : Int) < (p : Int) + sz := by omega
      have he : ((p + sz - f : Nat) : Int) = (p : Int) + sz - f := by omega
      have HE := Lib.hid he
      clear he
      go_enter Tryz.func203, Tryz.ntmps203
      go_wp2
      go_quiet (fail)
      all_goals
        go_wp2
        go_quiet (fail)
        go_wp2
        go_ret
        rw [HE.out]
        exact ⟨rfl, _, World.drewN_drewN _ _ _⟩
    · rw [if_neg hlt]
      have hli : ¬ (f : Int) < (p : Int) + sz := by omega
      go_enter Tryz.func203, Tryz.ntmps203
      go_wp2
      go_quiet (fail)
      all_goals
        go_wp2
        go_ret
        exact ⟨rfl, _, rfl⟩
end

end Go.Proofs.YtnacjogdndggeaaGreatDoor
end
