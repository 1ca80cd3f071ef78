/- Layer 13 (topic): topics' bytes. Layer 4 (disk): the writes of one file struck out, at the closure of drop (printed by gen_drop.py). Layer 4 (disk): a file dropped; renamed. Layer 4 (disk): Rename. -/
import Derived.Test.YtnacjogdndggeaaGreatDoorZ23
import Derived.Test.YtnacjogdndggeaaGreatDoorZ06
import Derived.Test.YtnacjogdndggeaaGreatDoorZ07
import Derived.Test.YtnacjogdndggeaaGreatDoorZ16
import Derived.Maps.OwnSet
import Derived.StillTailTactics
section
namespace Go.Proofs.YtnacjogdndggeaaGreatDoor
open Go.Shelf Go.RowKit Go.Lib
set_option maxRecDepth 100000
set_option maxHeartbeats 1000000

def topB (t : List UInt8 × Nat) : List UInt8 := textB t.1 ++ be 1 t.2
def topsB (L : Tops) : List UInt8 := L.flatMap topB
/-- Topics' bytes. -/
def putT (L : Tops) : List UInt8 := be 1 L.length ++ topsB L
/-- What lets topics be written. -/
def TopsFit (L : Tops) : Prop := L.length ≤ 6 ∧ ∀ t ∈ L, t.1.length ≤ 16 ∧ t.2 ≤ 3

theorem num1 (n : Nat) (h : n < 256) : numsB 1 [(n : Int)] = be 1 n ∧ numsE 1 [(n : Int)] = 0 := by
  have hf : fits 1 (n : Int) = true := by simp [fits]; omega
  have := num1_good (n := 1) (x := (n : Int)) (by omega) (by omega) hf
  exact ⟨by rw [show (1 : Int) = ((1 : Nat) : Int) from rfl, this.2, Int.toNat_natCast], this.1⟩
theorem rsa_blk1 {w : World} {b : Nat} {x : List UInt8} {t : TypeId} (h : Blk w b #[.string (S x)] t) : RSa w (some ⟨b, 0, none⟩) [x] := fun j hj => ⟨b, 0, rfl, by
  rw [h.cell]
  match j, hj with
  | 0, _ => rfl⟩
theorem topsB_take (L : Tops) (k : Nat) (h : k < L.length) : topsB (L.take (k + 1)) = topsB (L.take k) ++ topB L[k] := by
  unfold topsB
  rw [List.take_succ_eq_append_getElem h, List.flatMap_append]
  simp
theorem topB_len {t : List UInt8 × Nat} (h : t.1.length ≤ 16) : (topB t).length ≤ 19 := by
  simp [topB, textB_length]
  omega
theorem topsB_len (L : Tops) (h : ∀ t ∈ L, t.1.length ≤ 16) : (topsB L).length ≤ 19 * L.length := by
  unfold topsB
  induction L with
  | nil => simp
  | cons x L ih =>
    rw [List.flatMap_cons, List.length_append, List.length_cons]
    have h1 := topB_len (h x (List.mem_cons_self ..))
    have h2 := ih fun t ht => h t (List.mem_cons_of_mem _ ht)
    omega
theorem putT_len {L : Tops} (h : TopsFit L) : (putT L).length ≤ 115 := by
  unfold putT
  rw [List.length_append, be_length]
  have := topsB_len L fun t ht => (h.2 t ht).1
  have := h.1
  omega

theorem put_tops {w : World} {A : Option Addr} {cap : Nat} {L : Tops} (hr : RTa w A L) (hf : TopsFit L) :
    Calls Tryz.prog 61 #[.slice A L.length cap] w fun e w' => e = .returned (.string (S (putT L))) ∧ Below w.heap.size w w' := by
  have hl6 := hf.1
  have HB0 := Lib.hid ((Below.refl w.heap.size w).alloc (Nat.le_refl _) (.cells #[.int .i64 (L.length : Int)] 3))
  have hN0 := Num_any 1 (.slice (some ⟨w.heap.size, 0, none⟩) 1 1) [(L.length : Int)] (w.alloc (.cells #[.int .i64 (L.length : Int)] 3)) (ri_one w L.length) (by simp)
  rw [(num1 L.length (by omega)).1, (num1 L.length (by omega)).2] at hN0
  have HR := Lib.hid hr
  have HF := Lib.hid hf
  have HP : Hid (putT L = be 1 L.length ++ topsB L) := rfl
  have hb1 : (be 1 L.length).length = 1 := be_length 1 _
  obtain ⟨h0, H0⟩ : ∃ h0, Hid (h0 = be 1 L.length) := ⟨_, rfl⟩
  rw [← H0.out] at hN0 hb1
  clear hr hf
  go_enter Tryz.func61, Tryz.ntmps61
  go_wp2_with (fail)
  refine hN0.mono ?_
  rintro e w1 ⟨rfl, hb⟩
  have HB1 := Lib.hid (HB0.out.trans (hb.mono HB0.out.size))
  clear HB0 hb hN0
  go_wp2_with (fail)
  go_loopw [3, 20] (fun vs vi wr => ∃ (k : Nat) (x : List UInt8), k ≤ L.length ∧ vi = .int .i64 k ∧ vs = .string (S x) ∧ Hid (x = h0 ++ topsB (L.take k)) ∧ Hid (Below w.heap.size w wr)) (fun _ vi _ => L.length - (RowKit.intOf vi).toNat)
  case atStart => exact ⟨0, h0, Nat.zero_le _, rfl, rfl, Lib.hid (by simp [topsB]), HB1⟩
  case round =>
    obtain ⟨k, x, hk, rfl, rfl, HX, HB⟩ := hrel
    by_cases hlt : k < L.length
    · obtain ⟨g, rfl, c0, c1⟩ := (HR.out.below HB.out) k hlt
      have hm := HF.out.2 _ (List.getElem_mem hlt)
      have HT := Lib.hid (topsB_take L k hlt)
      have hxl : x.length ≤ 1 + 19 * k := by
        rw [HX.out, List.length_append, hb1]
        have := topsB_len (L.take k) fun t ht => (HF.out.2 t (List.mem_of_mem_take ht)).1
        rw [List.length_take] at this
        omega
      have HTB : Hid (topB L[k] = textB L[k].1 ++ be 1 L[k].2) := rfl
      generalize L[k] = t at *
      obtain ⟨m, q⟩ := t
      simp only at c0 c1 hm
      have hB2 := (Below.refl wr.heap.size wr).alloc (Nat.le_refl _) (.cells #[.string (S m), .int .i64 (q : Int)] 122)
      have hbn := Blk.new wr #[.string (S m), .int .i64 (q : Int)] 122
      have hB3 := hB2.alloc (by simp) (.cells #[.string (S m)] 9)
      have hbm := Blk.new (wr.alloc (.cells #[.string (S m), .int .i64 (q : Int)] 122)) #[.string (S m)] 9
      have HT1 := Text_good (some ⟨_, 0, none⟩) 1 [m] _ (rsa_blk1 hbm) (by simp) (by simp [shortAll]; omega)
      have hbn3 := hbn.alloc (.cells #[.string (S m)] 9)
      have HB3 := Lib.hid (HB.out.trans (hB3.mono HB.out.size))
      have HBN := Lib.hid hbn3
      have hsz : (wr.alloc (.cells #[.string (S m), .int .i64 (q : Int)] 122)).heap.size = wr.heap.size + 1 := by simp
      rw [hsz] at HT1
      clear hB2 hB3 hbm hbn hbn3
      go_wp2_with (fail)
      refine HT1.mono ?_
      rintro e w2 ⟨rfl, hb⟩
      have hbn4 := HBN.out.below hb
      have HB4 := Lib.hid (HB3.out.trans (hb.mono HB3.out.size))
      have c1n := hbn4.cell 1
      have hN := Num_any 1 (.slice (some ⟨w2.heap.size, 0, none⟩) 1 1) [(q : Int)] (w2.alloc (.cells #[.int .i64 (q : Int)] 3)) (ri_one w2 q) (by simp)
      rw [(num1 q (by omega)).1, (num1 q (by omega)).2] at hN
      have HB5 := Lib.hid (HB4.out.alloc HB4.out.size (.cells #[.int .i64 (q : Int)] 3))
      clear hb hbn4 HBN HB3 HT1 c0 c1
      go_wp2_with (fail)
      refine hN.mono ?_
      rintro e w6 ⟨rfl, hb⟩
      have HB6 := Lib.hid (HB5.out.trans (hb.mono HB5.out.size))
      clear hb hN HB5 c1n
      have hl1 : (textsB [m]).length ≤ 100 := by
        have := textsB_len [m] 16 (by intro s hs; simp at hs; rw [hs]; exact hm.1)
        simp at this
        omega
      have hl2 : (be 1 q).length = 1 := be_length 1 q
      have HTE : Hid (textsB [m] = textB m) := Lib.hid (by simp [textsB])
      generalize textsB [m] = y1 at *
      generalize be 1 q = y2 at *
      have z1 : (S y1).size ≤ 100 := by simpa using hl1
      have z2 : (S y2).size ≤ 1 := by simp [hl2]
      have z3 : (S x).size ≤ 1000 := by simp; omega
      have z4 : x.length ≤ 1000 := by omega
      have z5 : y2.length ≤ 1 := by omega
      clear hl2
      go_wp2
      refine ⟨⟨k + 1, x ++ (y1 ++ y2), hlt, by go_num, ?_, Lib.hid (by rw [HX.out, HT.out, HTB.out, HTE.out, List.append_assoc]), HB6⟩, by simp [RowKit.intOf]; omega⟩
      rw [← S_app, ← S_app]
    · have hkn : k = L.length := by omega
      subst hkn
      go_wp2
      go_ret
      exact ⟨ret_str (by rw [HX.out, List.take_length, HP.out, H0.out]), HB.out⟩

end Go.Proofs.YtnacjogdndggeaaGreatDoor
end

section
namespace Go.Proofs.YtnacjogdndggeaaGreatDoor
open Go.Shelf Go.RowKit Go.Lib

set_option maxRecDepth 100000 in
set_option maxHeartbeats 1000000 in
theorem CL_anyD {W : World} {blk : List UInt8 → Nat} {n : List UInt8} {fb : Nat} (q : WaitC) (hc : W.cell? ⟨fb, 0, none⟩ = some (.pointer (some ⟨blk n, 0, none⟩))) (hn : Filed W blk n) (hq : Filed W blk q.name) :
    Calls Tryz.prog 229 #[.agg #[.pointer (some ⟨blk q.name, 0, none⟩), .int .i64 q.pos, .string (S q.s)], .pointer (some ⟨fb, 0, none⟩)] W fun e w' => e = .returned (.bool (decide (blk q.name = blk n))) ∧ Below W.heap.size W w' := by
  have hB := Lib.hid ((Below.refl W.heap.size W).alloc (Nat.le_refl _) (.cells #[.pointer (some ⟨blk q.name, 0, none⟩), .int .i64 (q.pos : Int), .string (S q.s)] 306))
  have he := eql_files (hq.below hB.out) (hn.below hB.out)
  have hcl := cell_lt hc
  have hc2 := (hB.out.cell (p := ⟨fb, 0, none⟩) hcl).trans hc
  clear hn hq
  go_enter Tryz.func229, Tryz.ntmps229
  go_wp2
  go_ret
  exact ⟨rfl, hB.out⟩

set_option maxRecDepth 100000 in
set_option maxHeartbeats 2000000 in
theorem IndexFunc_anyD {w : World} {blk : List UInt8 → Nat} {n : List UInt8} {fb g cap : Nat} {L : List WaitC} (hc : w.cell? ⟨fb, 0, none⟩ = some (.pointer (some ⟨blk n, 0, none⟩))) (hn : Filed w blk n) (hL : ∀ q ∈ L, Filed w blk q.name)
    (hr : w.rangeAt g 0 (L.flatMap (waitV blk))) (hl : L.length ≤ 1000000000) :
    Calls Tryz.prog 260 #[.slice (some ⟨g, 0, none⟩) L.length cap, .func (.func 229) #[] #[.pointer (some ⟨fb, 0, none⟩)]] w fun e w' => e = .returned (.int .i64 (firstI (fun q => decide (blk q.name = blk n)) L)) ∧ Below w.heap.size w w' := by
  have HB := Lib.hid (Below.refl w.heap.size w)
  have HN := Lib.hid hn
  have HL := Lib.hid hL
  have HR := Lib.hid hr
  have HC := Lib.hid hc
  clear hn hL hr hc
  go_enter Tryz.func260, Tryz.ntmps260
  go_wp2
  go_loopw [8] (fun vi wr => ∃ k : Nat, k ≤ L.length ∧ vi = .int .i64 k ∧ Hid (∀ j, j < k → ∀ hj : j < L.length, decide (blk L[j].name = blk n) = false) ∧ Hid (Below w.heap.size w wr)) (fun vi _ => L.length - (RowKit.intOf vi).toNat)
  case atStart => exact ⟨0, Nat.zero_le _, rfl, Lib.hid (fun j hj => absurd hj (by omega)), HB⟩
  case round =>
    obtain ⟨k, hk, rfl, HF, HB⟩ := hrel
    by_cases hlt : k < L.length
    · have hcl := cell_lt HC.out
      have h1 : wr.cell? ⟨fb, 0, none⟩ = _ := (HB.out.cell (p := ⟨fb, 0, none⟩) hcl).trans HC.out
      have hn1 : Filed wr blk n := HN.out.below HB.out
      have hq1 : Filed wr blk L[k].name := (HL.out _ (List.getElem_mem hlt)).below HB.out
      obtain ⟨d0, d1, d2⟩ := cell3 HR.out hlt
      have c0 := (HB.out.cell (p := ⟨g, k * 3, none⟩) (cell_lt d0)).trans d0
      have c1 := (HB.out.cell (p := ⟨g, k * 3 + 1, none⟩) (cell_lt d1)).trans d1
      have c2 := (HB.out.cell (p := ⟨g, k * 3 + 2, none⟩) (cell_lt d2)).trans d2
      have hcl := CL_anyD L[k] h1 hn1 hq1
      generalize hb : decide (blk L[k].name = blk n) = b at *
      have HBB := Lib.hid hb
      clear hb d0 d1 d2 h1 hn1 hq1
      go_wp2_with (fail)
      refine hcl.mono ?_
      rintro e w1 ⟨rfl, hb1⟩
      have HB1 := Lib.hid (HB.out.trans (hb1.mono HB.out.size))
      clear hcl c0 c1 c2 hb1
      cases b
      · go_wp2
        go_roundw
        case rel => exact ⟨k + 1, hlt, by go_num, Lib.hid (fun j hj hj2 => by rcases Nat.lt_succ_iff_lt_or_eq.1 hj with h | rfl; exact HF.out j h hj2; exact HBB.out), HB1⟩
        case measure => simp [RowKit.intOf]; omega
      · go_wp2
        go_ret
        exact ⟨ret_int (firstI_hit hlt HF.out HBB.out).symm, HB1.out⟩
    · have hkn : k = L.length := by omega
      subst hkn
      go_wp2
      go_ret
      exact ⟨ret_int (firstI_miss HF.out).symm, HB.out⟩

set_option maxRecDepth 100000 in
set_option maxHeartbeats 2000000 in
theorem DeleteFunc_anyD {w : World} {blk : List UInt8 → Nat} {n : List UInt8} {fb g cap : Nat} {L : List WaitC} (hc : w.cell? ⟨fb, 0, none⟩ = some (.pointer (some ⟨blk n, 0, none⟩))) (hn : Filed w blk n) (hL : ∀ q ∈ L, Filed w blk q.name)
    (hr : w.rangeAt g 0 (L.flatMap (waitV blk))) (hl : L.length ≤ 1000000000) (hW : WRow w g cap) (hcap : L.length ≤ cap) (hm : cap ≤ maxLen) (hfb : fb ≠ g) (hng : blk n ≠ g) (hLg : ∀ q ∈ L, blk q.name ≠ g) :
    Calls Tryz.prog 228 #[.slice (some ⟨g, 0, none⟩) L.length cap, .func (.func 229) #[] #[.pointer (some ⟨fb, 0, none⟩)]] w fun e w' =>
      e = .returned (.slice (some ⟨g, 0, none⟩) (L.filter fun q => !decide (blk q.name = blk n)).length cap) ∧ WRow w' g cap ∧ w'.rangeAt g 0 ((L.filter fun q => !decide (blk q.name = blk n)).flatMap (waitV blk)) ∧ w.grownBy w' (some g) := by
  have hI := IndexFunc_anyD (cap := cap) hc hn hL hr hl
  cases hf : L.findIdx? fun q => decide (blk q.name = blk n) with
  | none =>
    have hI2 : firstI (fun q => decide (blk q.name = blk n)) L = -1 := by
      unfold firstI
      rw [hf]
    rw [hI2] at hI
    have hall : L.filter (fun q => !decide (blk q.name = blk n)) = L := List.filter_eq_self.2 fun q hq => by
      have := List.findIdx?_eq_none_iff.1 hf q hq
      simp only [this, Bool.not_false]
    rw [hall]
    have HR := Lib.hid hr
    have HW := Lib.hid hW
    clear hr hW hn hL hLg hall hf hI2 hc
    go_enter Tryz.func228, Tryz.ntmps228
    go_wp2_with (fail)
    refine hI.mono ?_
    rintro e w1 ⟨rfl, hb1⟩
    have hg1 : w.grownBy w1 (some g) := ⟨hb1.os, hb1.tape, hb1.output, hb1.size, fun k hk _ => hb1.block k hk⟩
    have HG1 := Lib.hid hg1
    have HB1 := Lib.hid hb1
    clear hI hb1 hg1
    go_wp2
    go_ret
    exact ⟨rfl, HW.out.below HB1.out, range_below HR.out HB1.out, HG1.out⟩
  | some i =>
    obtain ⟨hi1, hi2, hi3⟩ := List.findIdx?_eq_some_iff_getElem.1 hf
    have hI2 : firstI (fun q => decide (blk q.name = blk n)) L = (i : Int) := by
      unfold firstI
      rw [hf]
    rw [hI2] at hI
    have hk1 : kept (fun q => decide (blk q.name = blk n)) L (i + 1) = L.take i := kept_first hi1 hi2 hi3
    have HC := Lib.hid hc
    have HN := Lib.hid hn
    have HL := Lib.hid hL
    have HR := Lib.hid hr
    have HLg := Lib.hid hLg
    have HW := Lib.hid hW
    have HK := Lib.hid hk1
    have HI2 := Lib.hid hi2
    clear hc hn hL hr hLg hW hf hi2 hi3 hI2 hk1
    have hmx : cap ≤ 9223372036854775807 := hm
    have hi0 : ((i : Int) == -1) = false := beq_eq_false_iff_ne.2 (by omega)
    go_enter Tryz.func228, Tryz.ntmps228
    go_wp2_with (fail)
    refine hI.mono ?_
    rintro e w1 ⟨rfl, hb1⟩
    have HB1 := Lib.hid hb1
    clear hI hb1
    go_wp2
    go_loopw [5, 6] (fun vi vj wr => ∃ I J : Nat, J ≤ L.length ∧ I < J ∧ vi = .int .i64 I ∧ vj = .int .i64 J ∧ Hid (I = (kept (fun q => decide (blk q.name = blk n)) L J).length) ∧ Hid (w.grownBy wr (some g)) ∧ Hid (WRow wr g cap) ∧
        Hid (wr.rangeAt g 0 ((kept (fun q => decide (blk q.name = blk n)) L J).flatMap (waitV blk))) ∧ Hid (wr.rangeAt g (J * 3) ((L.drop J).flatMap (waitV blk)))) (fun _ vj _ => L.length - (RowKit.intOf vj).toNat)
    case atStart =>
      have hg1 : w.grownBy w1 (some g) := ⟨HB1.out.os, HB1.out.tape, HB1.out.output, HB1.out.size, fun k hk _ => HB1.out.block k hk⟩
      have hr1 : w1.rangeAt g 0 (L.flatMap (waitV blk)) := fun j v hv => by
        have := HR.out j v hv
        rw [← this]
        exact HB1.out.cell (p := ⟨g, 0 + j, none⟩) (cell_lt this)
      refine ⟨i, i + 1, hi1, Nat.lt_succ_self _, rfl, by go_num, Lib.hid (by rw [HK.out, List.length_take]; omega), Lib.hid hg1, Lib.hid (HW.out.below HB1.out), Lib.hid ?_, Lib.hid ?_⟩
      · rw [HK.out]
        intro j v hv
        have hlt := (List.getElem?_eq_some_iff.1 hv).1
        refine hr1 j v ?_
        conv => lhs; rw [← List.take_append_drop i L]
        rw [List.flatMap_append, List.getElem?_append_left hlt]
        exact hv
      · intro j v hv
        have := hr1 ((i + 1) * 3 + j) v (by
          conv => lhs; rw [← List.take_append_drop (i + 1) L]
          rw [List.flatMap_append, List.getElem?_append_right (by rw [flat3, List.length_take]; omega), flat3, List.length_take, show (i + 1) * 3 + j - min (i + 1) L.length * 3 = j by omega]
          exact hv)
        rwa [Nat.zero_add] at this
    case round =>
      obtain ⟨I, J, hJ, hIJ, rfl, rfl, HI, HG, HW, HR0, HR1⟩ := hrel
      by_cases hlt : J < L.length
      · have hd : L.drop J = L[J] :: L.drop (J + 1) := List.drop_eq_getElem_cons hlt
        have hr1 := HR1.out
        rw [hd] at hr1
        obtain ⟨c0, c1, c2⟩ := cell3o hr1
        have HR2 := Lib.hid (range_next hr1)
        have HBX := Lib.hid ((Below.refl wr.heap.size wr).alloc (Nat.le_refl _) (.cells #[.pointer (some ⟨blk L[J].name, 0, none⟩), .int .i64 (L[J].pos : Int), .string (S L[J].s)] 306))
        have hcl := cell_lt HC.out
        have hsz := HG.out.size
        have h1 := (HBX.out.cell (p := ⟨fb, 0, none⟩) (by show fb < wr.heap.size; exact Nat.lt_of_lt_of_le hcl hsz)).trans ((World.cell?_of_block (a := ⟨fb, 0, none⟩) (HG.out.block fb hcl (by simpa using hfb))).trans HC.out)
        have hn1 := (HN.out.grown HG.out (by simpa using hng.symm)).below HBX.out
        have hq1 := ((HL.out _ (List.getElem_mem hlt)).grown HG.out (by simpa using (HLg.out _ (List.getElem_mem hlt)).symm)).below HBX.out
        have hcall := CL_anyD L[J] h1 hn1 hq1
        have hbn := Blk.new wr #[.pointer (some ⟨blk L[J].name, 0, none⟩), .int .i64 (L[J].pos : Int), .string (S L[J].s)] 306
        have hsx : wr.heap.size < (wr.alloc (.cells #[.pointer (some ⟨blk L[J].name, 0, none⟩), .int .i64 (L[J].pos : Int), .string (S L[J].s)] 306)).heap.size := by simp
        have hks := kept_succ (p := fun q => decide (blk q.name = blk n)) hlt
        have HKT : Hid (decide (blk L[J].name = blk n) = true → kept (fun q => decide (blk q.name = blk n)) L (J + 1) = kept (fun q => decide (blk q.name = blk n)) L J) := Lib.hid (fun h => by rw [hks, if_pos h])
        have HKF : Hid (decide (blk L[J].name = blk n) = false → kept (fun q => decide (blk q.name = blk n)) L (J + 1) = kept (fun q => decide (blk q.name = blk n)) L J ++ [L[J]]) := Lib.hid (fun h => by rw [hks, if_neg (by rw [h]; decide)])
        clear hks
        have HWX := Lib.hid (HW.out.below HBX.out)
        have HRX := Lib.hid (range_below HR0.out HBX.out)
        have HRY := Lib.hid (range_below HR2.out HBX.out)
        have HGX := Lib.hid (World.grownBy.trans HG.out (World.grownBy_alloc wr (.cells #[.pointer (some ⟨blk L[J].name, 0, none⟩), .int .i64 (L[J].pos : Int), .string (S L[J].s)] 306) (some g)))
        generalize hb : decide (blk L[J].name = blk n) = b at *
        clear hb h1 hn1 hq1 hr1 hd
        go_wp2_with (fail)
        refine hcall.mono ?_
        rintro e w3 ⟨rfl, hb3⟩
        have hbn3 := hbn.below hb3
        have HW3 := Lib.hid (HWX.out.below hb3)
        have HR3 := Lib.hid (range_below HRX.out hb3)
        have HS3 := Lib.hid (range_below HRY.out hb3)
        have HG3 : Hid (w.grownBy w3 (some g)) := Lib.hid (World.grownBy.trans HGX.out ⟨hb3.os, hb3.tape, hb3.output, hb3.size, fun k hk _ => hb3.block k hk⟩)
        clear HWX HRX HRY HGX hbn hcall c0 c1 c2 HW HR0 HR1 HR2 HBX HG hb3 hsz
        cases b
        · have e0 := hbn3.cell 0
          have e1 := hbn3.cell 1
          have e2 := hbn3.cell 2
          have ht : w3.there g (I * 3) 3 := fun j hj => by
            have := HW3.out.there (I * 3 + j) (by omega)
            rwa [Nat.zero_add] at this
          obtain ⟨v0, t0⟩ := Option.isSome_iff_exists.1 (ht 0 (by omega)).1
          obtain ⟨v1, t1⟩ := Option.isSome_iff_exists.1 (ht 1 (by omega)).1
          obtain ⟨v2, t2⟩ := Option.isSome_iff_exists.1 (ht 2 (by omega)).1
          have f0 : w3.frozen? ⟨g, I * 3, none⟩ = false := (ht 0 (by omega)).2
          have f1 : w3.frozen? ⟨g, I * 3 + 1, none⟩ = false := (ht 1 (by omega)).2
          have f2 : w3.frozen? ⟨g, I * 3 + 2, none⟩ = false := (ht 2 (by omega)).2
          rw [Nat.add_zero] at t0
          have HSET : Hid (w3.setCells g (I * 3) (waitV blk L[J]) = ((w3.setCell ⟨g, I * 3, none⟩ (.pointer (some ⟨blk L[J].name, 0, none⟩))).setCell ⟨g, I * 3 + 1, none⟩ (.int .i64 L[J].pos)).setCell ⟨g, I * 3 + 2, none⟩ (.string (S L[J].s))) := rfl
          have HT := Lib.hid ht
          clear ht
          go_wp2
          rw [← HSET.out]
          have hI := HI.out
          refine ⟨⟨I + 1, J + 1, hlt, by omega, by go_num, by go_num, Lib.hid ?_, Lib.hid (grown_sets _ _ _ HG3.out), Lib.hid (WRow.sets _ _ _ HW3.out), Lib.hid ?_, Lib.hid ?_⟩, by simp [RowKit.intOf]; omega⟩
          · rw [HKF.out (by simp), List.length_append, ← hI]
            rfl
          · rw [HKF.out (by simp)]
            have := range_snoc L[J] HR3.out (by rw [← hI]; exact HT.out)
            rwa [← hI] at this
          · rw [Nat.succ_mul]
            exact World.rangeAt_setCells_apart HS3.out _ _ _ (.inr (.inr (by show I * 3 + 3 ≤ J * 3 + 3; omega)))
        · go_wp2
          exact ⟨⟨I, J + 1, hlt, by omega, rfl, by go_num, Lib.hid (by rw [HKT.out (by simp)]; exact HI.out), HG3, HW3, Lib.hid (by rw [HKT.out (by simp)]; exact HR3.out), Lib.hid (by rw [Nat.succ_mul]; exact HS3.out)⟩, by simp [RowKit.intOf]; omega⟩
      · have hJn : J = L.length := by omega
        subst hJn
        rw [kept_all] at HI HR0
        obtain ⟨W4, hcl, hg4, hw4, hr4⟩ := clear_tail HW.out (show I ≤ L.length by omega) hcap HR0.out HI.out.symm
        have HG4 := Lib.hid (World.grownBy.trans HG.out hg4)
        have HCL := Lib.hid hcl
        have HW4 := Lib.hid hw4
        have HR4 := Lib.hid hr4
        clear hcl hg4 hw4 hr4
        go_wp2_with (first | (refine wpList_clear_run rfl _ 73 rfl _ _ rfl HCL.out ?_) | fail)
        go_ret
        exact ⟨congrArg (fun m => Ending.returned (Value.slice (some ⟨g, 0, none⟩) m cap)) HI.out, HW4.out, HR4.out, HG4.out⟩

set_option maxRecDepth 100000 in
set_option maxHeartbeats 1000000 in
theorem IndexFunc_nilD {w : World} {fb : Nat} :
    Calls Tryz.prog 260 #[.slice none 0 0, .func (.func 229) #[] #[.pointer (some ⟨fb, 0, none⟩)]] w fun e w' => e = .returned (.int .i64 (-1)) ∧ w = w' := by
  go_enter Tryz.func260, Tryz.ntmps260
  go_wp2
  refine wp_loop_rounds 1 ?_
  rw [rounds_succ]
  go_wp2
  go_ret
  exact ⟨rfl, rfl⟩

set_option maxRecDepth 100000 in
set_option maxHeartbeats 1000000 in
theorem DeleteFunc_nilD {w : World} {fb : Nat} :
    Calls Tryz.prog 228 #[.slice none 0 0, .func (.func 229) #[] #[.pointer (some ⟨fb, 0, none⟩)]] w fun e w' => e = .returned (.slice none 0 0) ∧ w = w' := by
  go_enter Tryz.func228, Tryz.ntmps228
  go_wp2_with (fail)
  refine IndexFunc_nilD.mono ?_
  rintro e w1 ⟨rfl, rfl⟩
  go_wp2
  go_ret
  exact ⟨rfl, rfl⟩

theorem StruckD {χ : Col} {c d fm : Nat} {D : Dsk} {blk : List UInt8 → Nat} {wv : Value} {w : World} {n : List UInt8} {fb : Nat} (h : DkAt χ c w d D fm blk wv) (hn : (D.file n).isSome = true) (hc : w.cell? ⟨fb, 0, none⟩ = some (.pointer (some ⟨blk n, 0, none⟩)))
    (hfb : wv.ownBlock ≠ some fb) (hl : D.waits.length ≤ 1000000000) :
    Calls Tryz.prog 228 #[wv, .func (.func 229) #[] #[.pointer (some ⟨fb, 0, none⟩)]] w (StruckPost w wv blk (D.waits.filter fun q => !decide (q.name = n))) := by
  have hfil : (D.waits.filter fun q => !decide (blk q.name = blk n)) = D.waits.filter fun q => !decide (q.name = n) := by
    apply List.filter_congr
    intro q hq
    by_cases e : q.name = n
    · rw [e]
      simp
    · have : blk q.name ≠ blk n := fun e2 => e (h.inj _ _ (h.there q hq) hn e2)
      simp [e, this]
  have hrow := h.row
  rcases hrow.2 with ⟨rfl, h0⟩ | ⟨g, cap, cur, rfl, _⟩
  · refine DeleteFunc_nilD.mono ?_
    rintro e w' ⟨rfl, rfl⟩
    have hw : D.waits = [] := List.eq_nil_of_length_eq_zero h0
    rw [hw]
    exact ⟨_, rfl, World.ownsRow_nil _ _ _ _, rfl, World.grownBy.refl _ _⟩
  · obtain ⟨h1, h2, h3⟩ := WRow.of hrow
    have hne : ∀ m, (D.file m).isSome = true → blk m ≠ g := fun m hm e => by
      obtain ⟨f, hf⟩ := Option.isSome_iff_exists.1 hm
      exact h.ne_row hf (by rw [e]; rfl)
    refine (DeleteFunc_anyD hc (h.filed hn) (fun q hq => h.filed (h.there q hq)) (range_own hrow) hl h1 h2 h3 (fun e => hfb (by rw [e]; rfl)) (hne n hn) (fun q hq => hne _ (h.there q hq))).mono ?_
    rintro e w' ⟨rfl, hw, hr, hg⟩
    rw [hfil] at hr
    rw [hfil]
    refine ⟨_, rfl, hw.own hr ?_ h3, rfl, hg⟩
    exact Nat.le_trans (List.length_filter_le _ _) h2

end Go.Proofs.YtnacjogdndggeaaGreatDoor
end

section
namespace Go.Proofs.YtnacjogdndggeaaGreatDoor
open Go.Shelf Go.RowKit Go.Lib

/-- A name struck out of the map. -/
theorem DkAt.deleted {χ : Col} {c d fm : Nat} {D : Dsk} {blk : List UInt8 → Nat} {wv : Value} {w w' : World} {n : List UInt8} (h : DkAt χ c w d D fm blk wv) {k : Nat}
    (hm : w'.ownsMap Tryz.prog 9 Rp fm k ((filesD blk D.files).del (.string n))) (hg : w.grownBy w' (some fm)) (hq : ∀ q ∈ D.waits, q.name ≠ n) :
    DkAt χ c w' d { D with files := adel n D.files } fm blk wv := by
  have hfile : ∀ m, ({ D with files := adel n D.files } : Dsk).file m = if m = n then none else D.file m := fun m => aget_adel _ _ _
  exact {
    own := ⟨h.own.1.grown hg (by simpa using h.d_fm.symm), h.own.2⟩
    map := by
      rw [filesD_del] at hm
      exact ownsMap_tight_files hm
    cmap := h.cmap
    file := fun m f hf => by
      rw [hfile] at hf
      split at hf
      · cases hf
      · have h1 := h.file m f hf
        exact ⟨h1.1.grown hg (by simpa using (h.ne_fm hf).symm), h1.2⟩
    inj := fun a b ha hb e => by
      rw [hfile] at ha hb
      split at ha
      · cases ha
      · split at hb
        · cases hb
        · exact h.inj a b ha hb e
    row := h.row.kept hg (.inr h.fm_row)
    crow := h.crow
    there := fun q hq' => by
      rw [hfile, if_neg (hq q hq')]
      exact h.there q hq'
    cap := h.cap
    len := fun m f hf => by
      rw [hfile] at hf
      split at hf
      · cases hf
      · exact h.len m f hf
    size := by
      have := Dsk.size_drop1 h.uni n
      show asum _ (adel n D.files) ≤ D.cap
      have h2 := h.size
      have h3 : (D.drop1 n).size = asum (fun f : FileC => f.now.length) (adel n D.files) := rfl
      omega }

/-- A file under another name, which was free. -/
theorem DkAt.moved {χ : Col} {c d fm : Nat} {D : Dsk} {blk : List UInt8 → Nat} {wv : Value} {w w' : World} {a b : List UInt8} {f : FileC} (h : DkAt χ c w d D fm blk wv) (hf : D.file a = some f) (hb : D.file b = none) (hlb : b.length ≤ 1000) {k : Nat}
    (hm : w'.ownsMap Tryz.prog 9 Rp fm k (((filesD blk D.files).put (.string b) (.lit (.int .i64 (blk a : Nat)))).del (.string a))) (hg : w.grownBy w' (some fm)) :
    DkAt χ c w' d { D with files := adel a (aput Lit.string b f D.files), waits := D.waits.map (Dsk.moved a b) } fm (fun m => if m = b then blk a else blk m) wv := by
  have hne : a ≠ b := fun e => by rw [e, hb] at hf; cases hf
  have hfile : ∀ m, ({ D with files := adel a (aput Lit.string b f D.files), waits := D.waits.map (Dsk.moved a b) } : Dsk).file m = if m = a then none else if m = b then some f else D.file m := fun m => by
    show aget (adel a (aput Lit.string b f D.files)) m = _
    rw [aget_adel, aget_aput]
    rfl
  have hnot : ∀ p ∈ D.files, p.1 ≠ b := aget_none.1 hb
  have hE : filesD (fun m => if m = b then blk a else blk m) D.files = filesD blk D.files := filesD_congr fun p hp => if_neg (hnot p hp)
  have hP := filesD_put (fun m => if m = b then blk a else blk m) D.files b f
  rw [hE] at hP
  simp only [if_pos] at hP
  have hw : (D.waits.map (Dsk.moved a b)).flatMap (waitV fun m => if m = b then blk a else blk m) = D.waits.flatMap (waitV blk) := by
    rw [List.flatMap_map]
    refine flatMap_congr' fun q hq => ?_
    have hq2 := h.there q hq
    have hqb : q.name ≠ b := fun e => by
      rw [e, hb] at hq2
      cases hq2
    unfold Dsk.moved waitV
    by_cases e : q.name = a
    · rw [if_pos e]
      simp [e]
    · rw [if_neg e]
      simp [hqb]
  exact {
    own := ⟨h.own.1.grown hg (by simpa using h.d_fm.symm), h.own.2⟩
    map := by
      rw [hP, filesD_del] at hm
      exact ownsMap_tight_files hm
    cmap := h.cmap
    file := fun m f' hm' => by
      rw [hfile] at hm'
      split at hm'
      · cases hm'
      · split at hm'
        · rename_i e
          injection hm' with hm'
          subst e hm'
          simp only [if_pos]
          have h1 := h.file a f hf
          exact ⟨h1.1.grown hg (by simpa using (h.ne_fm hf).symm), h1.2⟩
        · rename_i e
          simp only [if_neg e]
          have h1 := h.file m f' hm'
          exact ⟨h1.1.grown hg (by simpa using (h.ne_fm hm').symm), h1.2⟩
    inj := fun x y hx hy e => by
      rw [hfile] at hx hy
      split at hx
      · cases hx
      · rename_i xa
        split at hy
        · cases hy
        · rename_i ya
          by_cases ex : x = b <;> by_cases ey : y = b
          · rw [ex, ey]
          · simp only [ex, if_pos, if_neg ey] at e hy
            exact absurd (h.inj a y (by rw [hf]; rfl) hy e).symm ya
          · simp only [ey, if_pos, if_neg ex] at e hx
            exact absurd (h.inj x a hx (by rw [hf]; rfl) e) xa
          · simp only [if_neg ex, if_neg ey] at e hx hy
            exact h.inj x y hx hy e
    row := by
      rw [hw]
      show w'.ownsRow 0 _ 3 wv (D.waits.map (Dsk.moved a b)).length _
      rw [List.length_map]
      exact h.row.kept hg (.inr h.fm_row)
    crow := h.crow
    there := fun q hq => by
      obtain ⟨q0, hq0, rfl⟩ := List.mem_map.1 hq
      have h1 := h.there q0 hq0
      rw [hfile]
      unfold Dsk.moved
      split
      · rename_i e
        show (if b = a then none else if b = b then some f else D.file b).isSome = true
        rw [if_neg hne.symm, if_pos rfl]
        rfl
      · split
        · rfl
        · exact h1
    cap := h.cap
    len := fun m f' hm' => by
      rw [hfile] at hm'
      split at hm'
      · cases hm'
      · split at hm'
        · rename_i e
          injection hm' with hm'
          subst e hm'
          exact ⟨hlb, (h.len a f hf).2⟩
        · exact h.len m f' hm'
    size := by
      have h1 := asum_aput (kf := Lit.string) (fun f : FileC => f.now.length) b f D.files h.uni
      have h2 := asum_adel (fun f : FileC => f.now.length) a (aput Lit.string b f D.files) (Uni.aput h.uni _ _)
      have h3 : aget (aput Lit.string b f D.files) a = some f := by
        rw [aget_aput, if_neg hne]
        exact hf
      have h4 : aget D.files b = none := hb
      rw [h3] at h2
      rw [h4] at h1
      simp only [Option.map_some, Option.map_none, Option.getD_some, Option.getD_none] at h1 h2
      have h5 := h.size
      show asum (fun f : FileC => f.now.length) (adel a (aput Lit.string b f D.files)) ≤ D.cap
      unfold Dsk.size at h5
      omega }

set_option maxRecDepth 100000 in
set_option maxHeartbeats 2000000 in
theorem drop_one {χ : Col} {c d : Nat} {D : Dsk} {w : World} {b : Nat} {n : List UInt8} {f : FileC} (h : IsDk χ c w d D) (hc : w.cell? ⟨b, 0, none⟩ = some (.string (S n))) (hf : D.file n = some f) (hW : D.waits.length ≤ 1000000000) :
    Calls Tryz.prog 181 #[.pointer (some ⟨d, 0, none⟩), .slice (some ⟨b, 0, none⟩) 1 1] w fun e w' => e = .returned (.tuple #[]) ∧ Stp (· = c) χ w χ w' ∧ IsDk χ c w' d (D.drop1 n) := by
  obtain ⟨fm, blk, wv, h⟩ := h
  have hnl : n.length ≤ maxLen := by have := (h.len _ f hf).1; unfold maxLen; omega
  have hlk := h.lookup n hnl
  rw [hf] at hlk
  simp only at hlk
  have c2 := h.own.1.cell 2
  have hbn := Blk.new w #[.pointer (some ⟨blk n, 0, none⟩)] 262
  have HD2 := Lib.hid (h.stp (C := fun _ => False) ((Stp.refl _ χ w).alloc (.cells #[.pointer (some ⟨blk n, 0, none⟩)] 262)) (fun h => h))
  have HS2 := Lib.hid ((Stp.refl (· = c) χ w).alloc (.cells #[.pointer (some ⟨blk n, 0, none⟩)] 262))
  have hrow : wv.ownBlock ≠ some w.heap.size := fun e => by have := (h.row.lt _ e).2; omega
  have hkey := name_key n hnl
  have HF := Lib.hid hf
  have HW := Lib.hid hW
  clear h hf hW
  go_enter Tryz.func181, Tryz.ntmps181
  go_wp2
  refine wp_loop_rounds 2 ?_
  rw [rounds_succ]
  go_upto_region 4 with (fail)
  clear c2 hlk
  generalize w.alloc (.cells #[.pointer (some ⟨blk n, 0, none⟩)] 262) = w2 at *
  have c2 := HD2.out.own.1.cell 2
  have c3 := HD2.out.own.1.cell 3
  have hcall := StruckD HD2.out (by rw [HF.out]; rfl) (hbn.cell 0) hrow HW.out
  go_wp2_with (fail)
  refine hcall.mono ?_
  rintro e w3 ⟨v3, rfl, hr3, ho3, hg3⟩
  have hd3 := HD2.out.own.1.grown hg3 HD2.out.d_row
  have c5 := hd3.cell 3
  have f5 := hd3.frozen 3
  have HD4 : Hid (DkAt χ c (w3.setCell ⟨d, 3, none⟩ v3) d { D with waits := D.waits.filter fun q => !decide (q.name = n) } fm blk v3) := Lib.hid
    (HD2.out.setWaits v3 _ (fun _ _ => rfl) hg3 hr3 (fun g hg => HD2.out.crow g (by rw [← ho3]; exact hg)) (fun q hq => HD2.out.there q (List.mem_filter.1 hq).1))
  have HS4 : Hid (Stp (· = c) χ w χ (w3.setCell ⟨d, 3, none⟩ v3)) := Lib.hid ((HS2.out.trans (Stp.of_grown hg3 fun g hg => .inl (HD2.out.crow g hg))).set (.inl HD2.out.own.2) _)
  obtain ⟨A3, cap3, rfl⟩ := row_any hr3
  clear hr3 ho3 hg3 hd3 HS2 hcall c3 hbn c2
  go_upto_region 5 with (fail)
  clear c5 f5
  generalize w3.setCell ⟨d, 3, none⟩ _ = w4 at *
  have c2 := HD4.out.own.1.cell 2
  have hown := HD4.out.map
  go_wp2_with (first | (at_delete; refine wpList_delete_own _ rfl _ _ 72 9 rfl 262 files_keyed Tryz.underlying72 Rp fm _ _ rfl hown _ _ rfl hkey ?_; intro w5 hown5 hturn5) | fail)
  rw [rounds_succ]
  go_wp2
  go_end0
  refine ⟨rfl, HS4.out.trans (Stp.of_grown hturn5.grown fun g hg => .inl (by injection hg with hg; rw [← hg]; exact HD4.out.cmap)), fm, blk, .slice A3 (D.waits.filter fun q => !decide (q.name = n)).length cap3, ?_⟩
  exact HD4.out.deleted hown5 hturn5.grown (fun q hq => by
    have := (List.mem_filter.1 hq).2
    simpa using this)

end Go.Proofs.YtnacjogdndggeaaGreatDoor
end

section
namespace Go.Proofs.YtnacjogdndggeaaGreatDoor
open Go.Shelf Go.RowKit Go.Lib

/-- A name that isn't there is struck out: nothing turns. -/
theorem drop1_none {χ : Col} {c d fm : Nat} {D : Dsk} {blk : List UInt8 → Nat} {wv : Value} {w : World} {n : List UInt8} (h : DkAt χ c w d D fm blk wv) (hn : D.file n = none) : D.drop1 n = D := by
  unfold Dsk.drop1
  rw [adel_none (aget_none.1 hn), List.filter_eq_self.2]
  intro q hq
  have := h.there q hq
  have : q.name ≠ n := fun e => by
    rw [e, hn] at this
    cases this
  simp [this]

set_option maxRecDepth 100000 in
theorem look_run {w : World} {fm k : Nat} {Dd : DataW Unit} (h : w.ownsMap Tryz.prog 9 Rp fm k Dd) {s : List UInt8} (hs : s.length ≤ maxLen) {b : Nat} (hat : Dd.atKey (.string s) (.lit (.bool false)) = .lit (.int .i64 (b : Nat))) :
    (Instr.lookup 72 (.map (some fm)) (.string (S s)) false).run Tryz.prog w = .ok (.pointer (some ⟨b, 0, none⟩)) w := by
  obtain ⟨v, ps, hrun, hv⟩ := h.lookup files_keyed Tryz.underlying72 (Tryz.zeroValue262 w) (zd := .lit (.bool false)) (zp := []) rfl (name_key s hs)
  rw [hrun]
  rw [hat] at hv
  rcases Rp_inv hv with ⟨_, hy⟩ | ⟨b', rfl, hy⟩
  · cases hy
  · have h1 := congrArg Prod.fst hy
    dsimp only at h1
    injection h1 with h1
    injection h1 with _ h1
    have : b = b' := Int.ofNat_inj.1 h1
    rw [this]

set_option maxRecDepth 100000 in
set_option maxHeartbeats 2000000 in
/-- What stands behind the target's dropping. -/
theorem Rename_free {χ : Col} {c d : Nat} {D : Dsk} {w : World} {a b : List UInt8} {f : FileC} (h : IsDk χ c w d D) (hf : D.file a = some f) (hb : D.file b = none) (hlb : b.length ≤ 1000) (hN : D.files.length ≤ 1000000000) :
    Calls Tryz.prog 120 #[.pointer (some ⟨d, 0, none⟩), .string (S a), .string (S b)] w fun e w' => e = .returned (.int .i64 0) ∧ Stp (· = c) χ w χ w' ∧ IsDk χ c w' d (D.rename a b) := by
  have hne : a ≠ b := fun e => by rw [e, hb] at hf; cases hf
  have hla : a.length ≤ 1000 := (h.len hf).1
  have HB1 := Lib.hid ((Below.refl w.heap.size w).alloc (Nat.le_refl _) (.cells #[.string (S a)] 9))
  have h1 := h.below HB1.out
  have hbar := bars_one h1 (b := w.heap.size) (s := a) (cell_one_new w _ _ 0 _ rfl) (by unfold maxLen; omega)
  rw [hf] at hbar
  simp only [Option.isSome_some, if_true] at hbar
  have hd := done_any h1
  obtain ⟨fm, blk, wv, h1⟩ := h1
  have c2 := h1.own.1.cell 2
  have hlb2 := h1.lookup b (by unfold maxLen; omega)
  have hla2 := h1.lookup a (by unfold maxLen; omega)
  rw [hb] at hlb2
  rw [hf] at hla2
  simp only at hlb2 hla2
  have hab : (a == b) = false := beq_eq_false_iff_ne.2 hne
  have hkb := name_key b (by unfold maxLen; omega)
  have hka := name_key a (by unfold maxLen; omega)
  have H1 := Lib.hid h1
  have HF := Lib.hid hf
  have HBn := Lib.hid hb
  have HNE := Lib.hid hne
  have hfm := Lib.hid h1.cmap
  have hmx : D.files.length < maxLen := by unfold maxLen; omega
  clear h h1 hf hb hne
  go_enter Tryz.func120, Tryz.ntmps120
  go_wp2_with (fail)
  refine hbar.mono ?_
  rintro e w' ⟨rfl, rfl⟩
  go_wp2_with (fail)
  refine hd.mono ?_
  rintro e w' ⟨rfl, rfl⟩
  clear hbar hd
  go_upto_region 11 with (fail)
  generalize hw1 : w.alloc (.cells #[.string (S a)] 9) = w1 at *
  have HW1 := Lib.hid hw1
  clear hw1
  have hd1 : DkAt χ c w1.drew d D fm blk wv := H1.out.stp (C := fun _ => False) (Stp.refl _ _ _).drew (fun h => h)
  have c2' := hd1.own.1.cell 2
  have hla3 := hd1.lookup a (by unfold maxLen; omega)
  rw [HF.out] at hla3
  simp only at hla3
  refine wp_region_held_drew (S := fun w' => w'.cell? ⟨d, 2, none⟩ = some (.map (some fm)) ∧ (Instr.lookup 72 (.map (some fm)) (.string (S a)) false).run Tryz.prog w' = .ok (.pointer (some ⟨blk a, 0, none⟩)) w') (by kernel_rfl) ⟨c2', hla3⟩ (fun hHeld => ?_)
  have hB2 : Below w.heap.size w w1.drew := HB1.out.drew
  generalize w1.drew = w2 at *
  obtain ⟨w5, hrun, hown5, hgrow5⟩ := hd1.map.update files_keyed Tryz.underlying72 hmx hkb (val := .pointer (some ⟨blk a, 0, none⟩)) (d := .lit (.int .i64 (blk a : Nat))) (ps := []) rfl
  have hat5 : ((filesD blk D.files).put (.string b) (.lit (.int .i64 (blk a : Nat)))).atKey (.string a) (.lit (.bool false)) = .lit (.int .i64 (blk a : Nat)) := by
    rw [Go.Maps.atKey_put_other (fun e => HNE.out (by injection e))]
    have ha := amap_atKey (f := fun n (_ : FileC) => (.lit (.int .i64 (blk n)) : DataW Unit)) kfS a (.lit (.bool false)) D.files
    have hf2 := HF.out
    unfold Dsk.file at hf2
    rw [hf2] at ha
    exact ha
  have hS5 := And.intro ((hd1.own.1.grown hgrow5 (by simpa using hd1.d_fm.symm)).cell 2) (look_run hown5 (s := a) (by unfold maxLen; omega) hat5)
  have HMV := Lib.hid hat5
  clear c2 hlb2 hla2 hat5
  refine wpAnyH_take (i := 0) (oi := ⟨some 35, _, _, _, _, _⟩) (v := ?_) rfl (by kernel_rfl) (by kernel_rfl) (by kernel_rfl) (fun _ _ _ h => h) (Or.inl ⟨by rfl, (by intro w hSw; (try dsimp only at hSw); go_simp; try with_reducible rfl)⟩) hHeld ?_
  try simp only [Act.put, List.setIfInBounds_toArray, List.set_cons_zero, List.set_cons_succ]
  refine wpAnyH_take (i := 1) (oi := ⟨some 36, _, _, _, _, _⟩) (v := ?_) rfl (by kernel_rfl) (by kernel_rfl) (by kernel_rfl) (fun _ _ _ h => h) (Or.inl ⟨by rfl, (by intro w hSw; (try dsimp only at hSw); go_simp; try with_reducible rfl)⟩) hHeld ?_
  try simp only [Act.put, List.setIfInBounds_toArray, List.set_cons_zero, List.set_cons_succ]
  refine wpAnyH_take (i := 2) (oi := ⟨some 37, _, _, _, _, _⟩) (v := ?_) rfl (by kernel_rfl) (by kernel_rfl) (by kernel_rfl) (fun _ _ _ h => h) (Or.inl ⟨by rfl, (by intro w hSw; (try dsimp only at hSw); go_simp; try with_reducible rfl)⟩) hHeld ?_
  try simp only [Act.put, List.setIfInBounds_toArray, List.set_cons_zero, List.set_cons_succ]
  refine wpAnyH_take (i := 3) (oi := ⟨some 38, _, _, _, _, _⟩) (v := ?_) rfl (by kernel_rfl) (by kernel_rfl) (by kernel_rfl) (fun _ _ _ h => h) (Or.inl ⟨by rfl, (by intro w hSw; (try dsimp only at hSw); go_simp; try with_reducible rfl)⟩) hHeld ?_
  try simp only [Act.put, List.setIfInBounds_toArray, List.set_cons_zero, List.set_cons_succ]
  refine wpAnyH_take (i := 4) (oi := ⟨some 39, _, _, _, _, _⟩) (v := ?_) rfl (by kernel_rfl) (by kernel_rfl) (by kernel_rfl) (fun _ _ _ h => h) (Or.inl ⟨by rfl, (by intro w hSw; (try dsimp only at hSw); go_simp; try with_reducible rfl)⟩) hHeld ?_
  try simp only [Act.put, List.setIfInBounds_toArray, List.set_cons_zero, List.set_cons_succ]
  refine wpAnyH_take (i := 5) (oi := ⟨some 40, _, _, _, _, _⟩) (v := ?_) rfl (by kernel_rfl) (by kernel_rfl) (by kernel_rfl) (fun _ _ _ h => h) (Or.inl ⟨by rfl, (by intro w hSw; (try dsimp only at hSw); go_simp; try with_reducible rfl)⟩) hHeld ?_
  try simp only [Act.put, List.setIfInBounds_toArray, List.set_cons_zero, List.set_cons_succ]
  refine wpAnyH_take (i := 6) (oi := ⟨some 41, _, _, _, _, _⟩) (v := ?_) rfl (by kernel_rfl) (by kernel_rfl) (by kernel_rfl) (fun _ _ _ h => h) (Or.inl ⟨by rfl, (by intro w hSw; (try dsimp only at hSw); go_simp; try with_reducible rfl)⟩) hHeld ?_
  try simp only [Act.put, List.setIfInBounds_toArray, List.set_cons_zero, List.set_cons_succ]
  refine wpAnyH_take (i := 7) (oi := ⟨some 42, _, _, _, _, _⟩) (v := ?_) rfl (by kernel_rfl) (by kernel_rfl) (by kernel_rfl) (fun _ _ _ h => h) (Or.inl ⟨by rfl, (by intro w hSw; (try dsimp only at hSw); go_simp; try with_reducible rfl)⟩) hHeld ?_
  try simp only [Act.put, List.setIfInBounds_toArray, List.set_cons_zero, List.set_cons_succ]
  refine wpAnyH_take (i := 8) (oi := ⟨some 43, _, _, _, _, _⟩) (v := ?_) rfl (by kernel_rfl) (by kernel_rfl) (by kernel_rfl) (fun _ _ _ h => h) (Or.inl ⟨by rfl, (by intro w hSw; (try dsimp only at hSw); go_simp; try with_reducible rfl)⟩) hHeld ?_
  try simp only [Act.put, List.setIfInBounds_toArray, List.set_cons_zero, List.set_cons_succ]
  refine wpAnyH_take (i := 9) (oi := ⟨some 44, _, _, _, _, _⟩) (v := ?_) rfl (by kernel_rfl) (by kernel_rfl) (by kernel_rfl) (fun _ _ _ h => h) (Or.inl ⟨by rfl, (by intro w hSw; (try dsimp only at hSw); go_simp; try with_reducible rfl)⟩) hHeld ?_
  try simp only [Act.put, List.setIfInBounds_toArray, List.set_cons_zero, List.set_cons_succ]
  refine wpAnyH_take (i := 10) (oi := ⟨some 45, _, _, _, _, _⟩) (v := ?_) rfl (by kernel_rfl) (by kernel_rfl) (by kernel_rfl) (fun _ _ _ h => h) (Or.inl ⟨by rfl, (by intro w hSw; (try dsimp only at hSw); go_simp; try with_reducible rfl)⟩) hHeld ?_
  try simp only [Act.put, List.setIfInBounds_toArray, List.set_cons_zero, List.set_cons_succ]
  refine wpAnyH_ready (rs := [11]) (by kernel_rfl) (by simp) ?_
  refine AllReadyH.cons (o := ⟨none, _, _, _, _, _⟩) rfl (fun K hK => ?_) AllReadyH.nil
  go_simp
  have hS2 := hS5
  refine hK.out _ _ hS2 (fun hHeld => ?_)
  clear hK K
  try simp only [Act.put, List.setIfInBounds_toArray, List.set_cons_zero, List.set_cons_succ]
  refine wpAnyH_done (by kernel_rfl) ?_ _
  go_upto_region 12 with (fail)
  obtain ⟨c5, _⟩ := hHeld
  go_wp2_with (first | (at_delete; refine wpList_delete_own _ rfl _ _ 72 9 rfl 262 files_keyed Tryz.underlying72 Rp fm _ _ rfl hown5 _ _ rfl hka ?_; intro w6 hown6 hturn6) | fail)
  go_ret
  have hgr : w2.grownBy w6 (some fm) := World.grownBy.trans hgrow5 hturn6.grown
  have hres : D.rename a b = { D with files := adel a (aput Lit.string b f D.files), waits := D.waits.map (Dsk.moved a b) } := by
    have h1 := drop1_none H1.out HBn.out
    unfold Dsk.rename
    rw [if_neg HNE.out, h1, HF.out]
  rw [hres]
  refine ⟨rfl, ?_, fm, _, wv, hd1.moved HF.out HBn.out hlb hown6 hgr⟩
  exact (Stp.of_below hB2).trans (Stp.of_grown hgr fun g hg => .inl (by injection hg with hg; rw [← hg]; exact hfm.out))

set_option maxRecDepth 100000 in
set_option maxHeartbeats 2000000 in
theorem Rename_over {χ : Col} {c d : Nat} {D : Dsk} {w : World} {a b : List UInt8} {f g0 : FileC} (h : IsDk χ c w d D) (hf : D.file a = some f) (hb : D.file b = some g0) (hne : a ≠ b) (hN : D.files.length ≤ 1000000000) (hW : D.waits.length ≤ 1000000000) :
    Calls Tryz.prog 120 #[.pointer (some ⟨d, 0, none⟩), .string (S a), .string (S b)] w fun e w' => e = .returned (.int .i64 0) ∧ Stp (· = c) χ w χ w' ∧ IsDk χ c w' d (D.rename a b) := by
  have hla : a.length ≤ 1000 := (h.len hf).1
  have hlb : b.length ≤ 1000 := (h.len hb).1
  have HB1 := Lib.hid ((Below.refl w.heap.size w).alloc (Nat.le_refl _) (.cells #[.string (S a)] 9))
  have h1 := h.below HB1.out
  have hbar := bars_one h1 (b := w.heap.size) (s := a) (cell_one_new w _ _ 0 _ rfl) (by unfold maxLen; omega)
  rw [hf] at hbar
  simp only [Option.isSome_some, if_true] at hbar
  have hd := done_any h1
  have H0 := Lib.hid h1
  obtain ⟨fm0, blk0, wv0, h1⟩ := h1
  have c2 := h1.own.1.cell 2
  have hlb2 := h1.lookup b (by unfold maxLen; omega)
  rw [hb] at hlb2
  simp only at hlb2
  have hab : (a == b) = false := beq_eq_false_iff_ne.2 hne
  have hkb := name_key b (by unfold maxLen; omega)
  have hka := name_key a (by unfold maxLen; omega)
  have HF4 : Hid ((D.drop1 b).file a = some f) := Lib.hid (by rw [Dsk.file_drop1, if_neg hne, hf])
  have HB4 : Hid ((D.drop1 b).file b = none) := Lib.hid (by rw [Dsk.file_drop1, if_pos rfl])
  have HBn := Lib.hid hb
  have HNE := Lib.hid hne
  have HW := Lib.hid hW
  have hmx : (D.drop1 b).files.length < maxLen := by
    have : (D.drop1 b).files.length ≤ D.files.length := List.length_filter_le _ _
    unfold maxLen
    omega
  clear h h1 hf hb hne hW
  go_enter Tryz.func120, Tryz.ntmps120
  go_wp2_with (fail)
  refine hbar.mono ?_
  rintro e w' ⟨rfl, rfl⟩
  go_wp2_with (fail)
  refine hd.mono ?_
  rintro e w' ⟨rfl, rfl⟩
  clear hbar hd
  have h3 := H0.out.below ((Below.refl _ (w.alloc (.cells #[.string (S a)] 9))).alloc (Nat.le_refl _) (.cells #[.string (S b)] 9))
  have hcb := cell_one_new (w.alloc (.cells #[.string (S a)] 9)) (.string (S b)) 9 0 _ rfl
  rw [World.size_alloc] at hcb
  have hdrop := drop_one (b := w.heap.size + 1) h3 hcb HBn.out HW.out
  have HS3 := Lib.hid ((Stp.of_below (C := (· = c)) (χ := χ) HB1.out).alloc (.cells #[.string (S b)] 9))
  go_wp2_with (fail)
  refine hdrop.mono ?_
  rintro e w4 ⟨rfl, hs4, fm, blk, wv, hd4⟩
  have HS4 := Lib.hid (HS3.out.trans hs4)
  have HD4 := Lib.hid hd4
  clear hdrop h3 hs4 hd4 HS3 H0 c2 hlb2 hcb
  go_upto_region 11 with (fail)
  have hd1 : DkAt χ c w4.drew d (D.drop1 b) fm blk wv := HD4.out.stp (C := fun _ => False) (Stp.refl _ _ _).drew (fun h => h)
  have c2' := hd1.own.1.cell 2
  have hla3 := hd1.lookup a (by unfold maxLen; omega)
  rw [HF4.out] at hla3
  simp only at hla3
  refine wp_region_held_drew (S := fun w' => w'.cell? ⟨d, 2, none⟩ = some (.map (some fm)) ∧ (Instr.lookup 72 (.map (some fm)) (.string (S a)) false).run Tryz.prog w' = .ok (.pointer (some ⟨blk a, 0, none⟩)) w') (by kernel_rfl) ⟨c2', hla3⟩ (fun hHeld => ?_)
  have hB2 : Stp (· = c) χ w χ w4.drew := HS4.out.drew
  generalize w4.drew = w2 at *
  obtain ⟨w5, hrun, hown5, hgrow5⟩ := hd1.map.update files_keyed Tryz.underlying72 hmx hkb (val := .pointer (some ⟨blk a, 0, none⟩)) (d := .lit (.int .i64 (blk a : Nat))) (ps := []) rfl
  have hat5 : ((filesD blk (D.drop1 b).files).put (.string b) (.lit (.int .i64 (blk a : Nat)))).atKey (.string a) (.lit (.bool false)) = .lit (.int .i64 (blk a : Nat)) := by
    rw [Go.Maps.atKey_put_other (fun e => HNE.out (by injection e))]
    have ha := amap_atKey (f := fun n (_ : FileC) => (.lit (.int .i64 (blk n)) : DataW Unit)) kfS a (.lit (.bool false)) (D.drop1 b).files
    have hf2 := HF4.out
    unfold Dsk.file at hf2
    rw [hf2] at ha
    exact ha
  have hS5 := And.intro ((hd1.own.1.grown hgrow5 (by simpa using hd1.d_fm.symm)).cell 2) (look_run hown5 (s := a) (by unfold maxLen; omega) hat5)
  have HMV := Lib.hid hat5
  clear hat5
  refine wpAnyH_take (i := 0) (oi := ⟨some 35, _, _, _, _, _⟩) (v := ?_) rfl (by kernel_rfl) (by kernel_rfl) (by kernel_rfl) (fun _ _ _ h => h) (Or.inl ⟨by rfl, (by intro w hSw; (try dsimp only at hSw); go_simp; try with_reducible rfl)⟩) hHeld ?_
  try simp only [Act.put, List.setIfInBounds_toArray, List.set_cons_zero, List.set_cons_succ]
  refine wpAnyH_take (i := 1) (oi := ⟨some 36, _, _, _, _, _⟩) (v := ?_) rfl (by kernel_rfl) (by kernel_rfl) (by kernel_rfl) (fun _ _ _ h => h) (Or.inl ⟨by rfl, (by intro w hSw; (try dsimp only at hSw); go_simp; try with_reducible rfl)⟩) hHeld ?_
  try simp only [Act.put, List.setIfInBounds_toArray, List.set_cons_zero, List.set_cons_succ]
  refine wpAnyH_take (i := 2) (oi := ⟨some 37, _, _, _, _, _⟩) (v := ?_) rfl (by kernel_rfl) (by kernel_rfl) (by kernel_rfl) (fun _ _ _ h => h) (Or.inl ⟨by rfl, (by intro w hSw; (try dsimp only at hSw); go_simp; try with_reducible rfl)⟩) hHeld ?_
  try simp only [Act.put, List.setIfInBounds_toArray, List.set_cons_zero, List.set_cons_succ]
  refine wpAnyH_take (i := 3) (oi := ⟨some 38, _, _, _, _, _⟩) (v := ?_) rfl (by kernel_rfl) (by kernel_rfl) (by kernel_rfl) (fun _ _ _ h => h) (Or.inl ⟨by rfl, (by intro w hSw; (try dsimp only at hSw); go_simp; try with_reducible rfl)⟩) hHeld ?_
  try simp only [Act.put, List.setIfInBounds_toArray, List.set_cons_zero, List.set_cons_succ]
  refine wpAnyH_take (i := 4) (oi := ⟨some 39, _, _, _, _, _⟩) (v := ?_) rfl (by kernel_rfl) (by kernel_rfl) (by kernel_rfl) (fun _ _ _ h => h) (Or.inl ⟨by rfl, (by intro w hSw; (try dsimp only at hSw); go_simp; try with_reducible rfl)⟩) hHeld ?_
  try simp only [Act.put, List.setIfInBounds_toArray, List.set_cons_zero, List.set_cons_succ]
  refine wpAnyH_take (i := 5) (oi := ⟨some 40, _, _, _, _, _⟩) (v := ?_) rfl (by kernel_rfl) (by kernel_rfl) (by kernel_rfl) (fun _ _ _ h => h) (Or.inl ⟨by rfl, (by intro w hSw; (try dsimp only at hSw); go_simp; try with_reducible rfl)⟩) hHeld ?_
  try simp only [Act.put, List.setIfInBounds_toArray, List.set_cons_zero, List.set_cons_succ]
  refine wpAnyH_take (i := 6) (oi := ⟨some 41, _, _, _, _, _⟩) (v := ?_) rfl (by kernel_rfl) (by kernel_rfl) (by kernel_rfl) (fun _ _ _ h => h) (Or.inl ⟨by rfl, (by intro w hSw; (try dsimp only at hSw); go_simp; try with_reducible rfl)⟩) hHeld ?_
  try simp only [Act.put, List.setIfInBounds_toArray, List.set_cons_zero, List.set_cons_succ]
  refine wpAnyH_take (i := 7) (oi := ⟨some 42, _, _, _, _, _⟩) (v := ?_) rfl (by kernel_rfl) (by kernel_rfl) (by kernel_rfl) (fun _ _ _ h => h) (Or.inl ⟨by rfl, (by intro w hSw; (try dsimp only at hSw); go_simp; try with_reducible rfl)⟩) hHeld ?_
  try simp only [Act.put, List.setIfInBounds_toArray, List.set_cons_zero, List.set_cons_succ]
  refine wpAnyH_take (i := 8) (oi := ⟨some 43, _, _, _, _, _⟩) (v := ?_) rfl (by kernel_rfl) (by kernel_rfl) (by kernel_rfl) (fun _ _ _ h => h) (Or.inl ⟨by rfl, (by intro w hSw; (try dsimp only at hSw); go_simp; try with_reducible rfl)⟩) hHeld ?_
  try simp only [Act.put, List.setIfInBounds_toArray, List.set_cons_zero, List.set_cons_succ]
  refine wpAnyH_take (i := 9) (oi := ⟨some 44, _, _, _, _, _⟩) (v := ?_) rfl (by kernel_rfl) (by kernel_rfl) (by kernel_rfl) (fun _ _ _ h => h) (Or.inl ⟨by rfl, (by intro w hSw; (try dsimp only at hSw); go_simp; try with_reducible rfl)⟩) hHeld ?_
  try simp only [Act.put, List.setIfInBounds_toArray, List.set_cons_zero, List.set_cons_succ]
  refine wpAnyH_take (i := 10) (oi := ⟨some 45, _, _, _, _, _⟩) (v := ?_) rfl (by kernel_rfl) (by kernel_rfl) (by kernel_rfl) (fun _ _ _ h => h) (Or.inl ⟨by rfl, (by intro w hSw; (try dsimp only at hSw); go_simp; try with_reducible rfl)⟩) hHeld ?_
  try simp only [Act.put, List.setIfInBounds_toArray, List.set_cons_zero, List.set_cons_succ]
  refine wpAnyH_ready (rs := [11]) (by kernel_rfl) (by simp) ?_
  refine AllReadyH.cons (o := ⟨none, _, _, _, _, _⟩) rfl (fun K hK => ?_) AllReadyH.nil
  go_simp
  have hS2 := hS5
  refine hK.out _ _ hS2 (fun hHeld => ?_)
  clear hK K
  try simp only [Act.put, List.setIfInBounds_toArray, List.set_cons_zero, List.set_cons_succ]
  refine wpAnyH_done (by kernel_rfl) ?_ _
  go_upto_region 12 with (fail)
  obtain ⟨c5, _⟩ := hHeld
  go_wp2_with (first | (at_delete; refine wpList_delete_own _ rfl _ _ 72 9 rfl 262 files_keyed Tryz.underlying72 Rp fm _ _ rfl hown5 _ _ rfl hka ?_; intro w6 hown6 hturn6) | fail)
  go_ret
  have hgr : w2.grownBy w6 (some fm) := World.grownBy.trans hgrow5 hturn6.grown
  have hres : D.rename a b = { D.drop1 b with files := adel a (aput Lit.string b f (D.drop1 b).files), waits := (D.drop1 b).waits.map (Dsk.moved a b) } := by
    unfold Dsk.rename
    rw [if_neg HNE.out, HF4.out]
    rfl
  rw [hres]
  refine ⟨rfl, ?_, fm, _, wv, hd1.moved HF4.out HB4.out hlb hown6 hgr⟩
  exact hB2.trans (Stp.of_grown hgr fun g hg => .inl (by injection hg with hg; rw [← hg]; exact hd1.cmap))

end Go.Proofs.YtnacjogdndggeaaGreatDoor
end
