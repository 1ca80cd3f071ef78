/- Layer 22 (send): a record of what is sent. Layer 22's law: a slice of what is sent; Great. What a law's row wants beside its walk: how an aggregate of whole numbers is opened. What the rows of layer 22 want beside their walks: how what is sent is opened. -/
import Derived.Test.YtnacjogdndggeaaGreatDoorZ31
import Derived.Test.YtnacjogdndggeaaGreatDoorZ16
import Derived.Test.YtnacjogdndggeaaGreatDoorZ01
import Derived.ProofKit
import Derived.OpenShut
import Derived.ShutString
import Derived.ChangeOld
import Derived.Below
import Derived.SliceStrings
import Derived.Lib.LaidTab
import Derived.Lay
import Derived.ChangeVars
import Derived.LaidLaws
import Derived.LaidHandle
import Derived.JoinedOf
import Derived.Stop.Joined
import Derived.Test.YtnacjogdndggeaaGreatDoorRows
section
namespace Go.Proofs.YtnacjogdndggeaaGreatDoor
open Go.Shelf Go.RowKit Go.Lib
set_option maxRecDepth 100000
set_option maxHeartbeats 1000000

/-- The record of what is sent. -/
def recOf (x : WantR) (kind due now : Int) : Rec := ⟨kind, x.queue, due, 0, 0, now, x.topic, x.tag, x.body, x.keys⟩

theorem strs_map (l : List (List UInt8)) : (l.map S).map Value.string = strVals l := by
  unfold strVals
  rw [List.map_map]
  rfl

theorem CloneS_any {w : World} {A : Option Addr} {c : Nat} {ts : List (List UInt8)} (hr : RSa w A ts) (hl : ts.length ≤ 1000000) :
    Calls Tryz.prog 87 #[.slice A ts.length c] w fun e w' => ∃ A2 c2, e = .returned (.slice A2 ts.length c2) ∧ RSa w' A2 ts ∧ Below w.heap.size w w' ∧ (∀ b o, A2 = some ⟨b, o, none⟩ → w.heap.size ≤ b) := by
  cases A with
  | none =>
    have h0 : ts = [] := by
      cases ts with
      | nil => rfl
      | cons y l => obtain ⟨b, o, hA, _⟩ := hr 0 (by simp); cases hA
    subst h0
    refine (Tryz.slices_Clone_string_nil _ c w).mono ?_
    rintro e w' ⟨rfl, rfl⟩
    exact ⟨none, 0, rfl, fun j hj => by simp at hj, Below.refl _ _, fun b o e => by cases e⟩
  | some ad =>
    obtain ⟨b, o, f⟩ := ad
    rcases Nat.eq_zero_or_pos ts.length with h0 | h0
    · have h0 := List.eq_nil_of_length_eq_zero h0
      subst h0
      refine (Tryz.slices_Clone_string_zero ⟨b, o, f⟩ c w).mono ?_
      rintro e w' ⟨v, rfl, hv, _, hb⟩
      obtain ⟨A2, c2, rfl⟩ := row_any hv
      exact ⟨A2, c2, rfl, fun j hj => by simp at hj, hb, fun b o e => by subst e; exact (hv.lt b rfl).1⟩
    · obtain ⟨b', o', hA, _⟩ := hr 0 h0
      injection hA with hA
      injection hA with h1 h2 h3
      subst h1 h2 h3
      refine (Tryz.slices_Clone_string b o ts.length c (ts.map S) w (by simp) (by omega) (fun j hj => by
        rw [List.length_map] at hj
        obtain ⟨b2, o2, hA, hc⟩ := hr j hj
        injection hA with hA
        injection hA with h1 h2
        subst h1 h2
        rw [hc]
        simp [List.getD_eq_getElem?_getD, hj])).mono ?_
      rintro e w' ⟨v, rfl, hv, _, hb⟩
      obtain ⟨A2, c2, rfl⟩ := row_any hv
      rw [List.take_of_length_le (by simp), strs_map] at hv
      exact ⟨A2, c2, rfl, RSa_of_row hv, hb, fun b o e => by subst e; exact (hv.lt b rfl).1⟩

theorem record_any {w : World} {x : WantR} {A : Option Addr} {c : Nat} (kind due now : Int) (hr : RSa w A x.keys) (hl : x.keys.length ≤ 1000000) :
    Calls Tryz.prog 41 #[.agg (wantV x A c), .int .i64 kind, .int .i64 due, .int .i64 now] w fun e w' => ∃ A2 c2, e = .returned (.agg (recV (recOf x kind due now) A2 c2)) ∧ RSa w' A2 x.keys ∧ Below w.heap.size w w' := by
  have hB := ((Below.refl w.heap.size w).alloc (Nat.le_refl _) (.cells (wantV x A c) 33)).alloc (by simp) (.cells #[.int .i64 0, .int .i64 0, .int .i64 0, .int .i64 0, .int .i64 0, .int .i64 0, .string ⟨#[]⟩, .string ⟨#[]⟩, .string ⟨#[]⟩, .slice none 0 0] 56)
  have HM1 := Lib.hid (((Blk.new w (wantV x A c) 33).alloc (.cells #[.int .i64 0, .int .i64 0, .int .i64 0, .int .i64 0, .int .i64 0, .int .i64 0, .string ⟨#[]⟩, .string ⟨#[]⟩, .string ⟨#[]⟩, .slice none 0 0] 56)).drew)
  have hrb := Blk.new (w.alloc (.cells (wantV x A c) 33)) #[.int .i64 0, .int .i64 0, .int .i64 0, .int .i64 0, .int .i64 0, .int .i64 0, .string ⟨#[]⟩, .string ⟨#[]⟩, .string ⟨#[]⟩, .slice none 0 0] 56
  rw [show (w.alloc (.cells (wantV x A c) 33)).heap.size = w.heap.size + 1 by simp] at hrb
  have HRB1 := Lib.hid hrb.drew
  have HK1 := Lib.hid (hr.below hB.drew)
  have HB1 := Lib.hid hB.drew
  have HCL := Lib.hid (fun (W : World) (h : RSa W A x.keys) => CloneS_any (c := c) h hl)
  clear hr hB hrb
  have HRO : Hid (∀ A2 cp2, recV (recOf x kind due now) A2 cp2 = #[.int .i64 kind, .int .i64 x.queue, .int .i64 due, .int .i64 0, .int .i64 0, .int .i64 now, .string (S x.topic), .string (S x.tag), .string (S x.body), .slice A2 x.keys.length cp2]) := Lib.hid fun _ _ => rfl
  simp only [wantV] at *
  go_enter Tryz.func41, Tryz.ntmps41
  go_upto_region 1 with (fail)
  have e0 := (And.intro (HM1.out.cell 0) (And.intro (HM1.out.cell 1) (And.intro (HM1.out.cell 2) (And.intro (HM1.out.cell 3) (HM1.out.cell 4)))))
  refine wp_region_held_drew (S := fun w' => w'.cell? ⟨w.heap.size, 0, none⟩ = some (.string (S x.topic)) ∧ w'.cell? ⟨w.heap.size, 1, none⟩ = some (.int .i64 x.queue) ∧ w'.cell? ⟨w.heap.size, 2, none⟩ = some (.string (S x.tag)) ∧ w'.cell? ⟨w.heap.size, 3, none⟩ = some (.slice A x.keys.length c) ∧ w'.cell? ⟨w.heap.size, 4, none⟩ = some (.string (S x.body))) (by kernel_rfl) e0 (fun hHeld => ?_)
  clear e0
  generalize ((w.alloc (.cells #[.string (S x.topic), .int .i64 x.queue, .string (S x.tag), .slice A x.keys.length c, .string (S x.body)] 33)).alloc (.cells #[.int .i64 0, .int .i64 0, .int .i64 0, .int .i64 0, .int .i64 0, .int .i64 0, .string ⟨#[]⟩, .string ⟨#[]⟩, .string ⟨#[]⟩, .slice none 0 0] 56)).drew = w1 at *
  refine wpAnyH_take (i := 0) (oi := ⟨some 9, _, _, _, _, _⟩) (v := ?_) rfl (by kernel_rfl) (by kernel_rfl) (by kernel_rfl) (fun _ _ _ h => h) (Or.inl ⟨by rfl, (by intro w hSw; (try dsimp only at hSw); go_simp; try with_reducible rfl)⟩) hHeld ?_
  try simp only [Act.put, List.setIfInBounds_toArray, List.set_cons_zero, List.set_cons_succ]
  refine wpAnyH_take (i := 1) (oi := ⟨some 10, _, _, _, _, _⟩) (v := ?_) rfl (by kernel_rfl) (by kernel_rfl) (by kernel_rfl) (fun _ _ _ h => h) (Or.inl ⟨by rfl, (by intro w hSw; (try dsimp only at hSw); go_simp; try with_reducible rfl)⟩) hHeld ?_
  try simp only [Act.put, List.setIfInBounds_toArray, List.set_cons_zero, List.set_cons_succ]
  refine wpAnyH_take (i := 3) (oi := ⟨some 12, _, _, _, _, _⟩) (v := ?_) rfl (by kernel_rfl) (by kernel_rfl) (by kernel_rfl) (fun _ _ _ h => h) (Or.inl ⟨by rfl, (by intro w hSw; (try dsimp only at hSw); go_simp; try with_reducible rfl)⟩) hHeld ?_
  try simp only [Act.put, List.setIfInBounds_toArray, List.set_cons_zero, List.set_cons_succ]
  refine wpAnyH_take (i := 4) (oi := ⟨some 13, _, _, _, _, _⟩) (v := ?_) rfl (by kernel_rfl) (by kernel_rfl) (by kernel_rfl) (fun _ _ _ h => h) (Or.inl ⟨by rfl, (by intro w hSw; (try dsimp only at hSw); go_simp; try with_reducible rfl)⟩) hHeld ?_
  try simp only [Act.put, List.setIfInBounds_toArray, List.set_cons_zero, List.set_cons_succ]
  refine wpAnyH_take (i := 5) (oi := ⟨some 14, _, _, _, _, _⟩) (v := ?_) rfl (by kernel_rfl) (by kernel_rfl) (by kernel_rfl) (fun _ _ _ h => h) (Or.inl ⟨by rfl, (by intro w hSw; (try dsimp only at hSw); go_simp; try with_reducible rfl)⟩) hHeld ?_
  try simp only [Act.put, List.setIfInBounds_toArray, List.set_cons_zero, List.set_cons_succ]
  refine wpAnyH_take (i := 7) (oi := ⟨some 16, _, _, _, _, _⟩) (v := ?_) rfl (by kernel_rfl) (by kernel_rfl) (by kernel_rfl) (fun _ _ _ h => h) (Or.inl ⟨by rfl, (by intro w hSw; (try dsimp only at hSw); go_simp; try with_reducible rfl)⟩) hHeld ?_
  try simp only [Act.put, List.setIfInBounds_toArray, List.set_cons_zero, List.set_cons_succ]
  refine wpAnyH_take (i := 9) (oi := ⟨some 18, _, _, _, _, _⟩) (v := ?_) rfl (by kernel_rfl) (by kernel_rfl) (by kernel_rfl) (fun _ _ _ h => h) (Or.inl ⟨by rfl, (by intro w hSw; (try dsimp only at hSw); go_simp; try with_reducible rfl)⟩) hHeld ?_
  try simp only [Act.put, List.setIfInBounds_toArray, List.set_cons_zero, List.set_cons_succ]
  refine wpAnyH_take (i := 11) (oi := ⟨some 20, _, _, _, _, _⟩) (v := ?_) rfl (by kernel_rfl) (by kernel_rfl) (by kernel_rfl) (fun _ _ _ h => h) (Or.inl ⟨by rfl, (by intro w hSw; (try dsimp only at hSw); go_simp; try with_reducible rfl)⟩) hHeld ?_
  try simp only [Act.put, List.setIfInBounds_toArray, List.set_cons_zero, List.set_cons_succ]
  refine wpAnyH_take (i := 2) (oi := ⟨some 11, _, _, _, _, _⟩) (v := ?_) rfl (by kernel_rfl) (by kernel_rfl) (by kernel_rfl) (fun _ _ _ h => h) (Or.inl ⟨by rfl, (by intro w hSw; (try dsimp only at hSw); go_simp; try with_reducible rfl)⟩) hHeld ?_
  try simp only [Act.put, List.setIfInBounds_toArray, List.set_cons_zero, List.set_cons_succ]
  refine wpAnyH_take (i := 6) (oi := ⟨some 15, _, _, _, _, _⟩) (v := ?_) rfl (by kernel_rfl) (by kernel_rfl) (by kernel_rfl) (fun _ _ _ h => h) (Or.inl ⟨by rfl, (by intro w hSw; (try dsimp only at hSw); go_simp; try with_reducible rfl)⟩) hHeld ?_
  try simp only [Act.put, List.setIfInBounds_toArray, List.set_cons_zero, List.set_cons_succ]
  refine wpAnyH_take (i := 8) (oi := ⟨some 17, _, _, _, _, _⟩) (v := ?_) rfl (by kernel_rfl) (by kernel_rfl) (by kernel_rfl) (fun _ _ _ h => h) (Or.inl ⟨by rfl, (by intro w hSw; (try dsimp only at hSw); go_simp; try with_reducible rfl)⟩) hHeld ?_
  try simp only [Act.put, List.setIfInBounds_toArray, List.set_cons_zero, List.set_cons_succ]
  refine wpAnyH_take (i := 10) (oi := ⟨some 19, _, _, _, _, _⟩) (v := ?_) rfl (by kernel_rfl) (by kernel_rfl) (by kernel_rfl) (fun _ _ _ h => h) (Or.inl ⟨by rfl, (by intro w hSw; (try dsimp only at hSw); go_simp; try with_reducible rfl)⟩) hHeld ?_
  try simp only [Act.put, List.setIfInBounds_toArray, List.set_cons_zero, List.set_cons_succ]
  refine wpAnyH_take (i := 12) (oi := ⟨some 21, _, _, _, _, _⟩) (v := ?_) rfl (by kernel_rfl) (by kernel_rfl) (by kernel_rfl) (fun _ _ _ h => h) (Or.inl ⟨by rfl, (by intro w hSw; (try dsimp only at hSw); go_simp; try with_reducible rfl)⟩) hHeld ?_
  try simp only [Act.put, List.setIfInBounds_toArray, List.set_cons_zero, List.set_cons_succ]
  refine wpAnyH_ready (rs := [13]) (by kernel_rfl) (by simp) ?_
  refine AllReadyH.cons (o := ⟨some 22, _, _, _, _, _⟩) rfl (fun K hK => ?_) AllReadyH.nil
  go_simp
  refine (HCL.out w1 HK1.out).mono ?_
  rintro e w3 ⟨A2, cp2, rfl, hk3, hb, hAb⟩
  have HM3 := Lib.hid (HM1.out.below hb)
  have HRB3 := Lib.hid (HRB1.out.below hb)
  have HB3 := Lib.hid (HB1.out.trans (hb.mono HB1.out.size))
  have HK3 := Lib.hid hk3
  have hS2 := (And.intro (HM3.out.cell 0) (And.intro (HM3.out.cell 1) (And.intro (HM3.out.cell 2) (And.intro (HM3.out.cell 3) (HM3.out.cell 4)))))
  have c0 := HRB3.out.cell 0
  have f0 := HRB3.out.frozen 0
  have c1 := HRB3.out.cell 1
  have f1 := HRB3.out.frozen 1
  have c2 := HRB3.out.cell 2
  have f2 := HRB3.out.frozen 2
  have c3 := HRB3.out.cell 3
  have f3 := HRB3.out.frozen 3
  have c4 := HRB3.out.cell 4
  have f4 := HRB3.out.frozen 4
  have c5 := HRB3.out.cell 5
  have f5 := HRB3.out.frozen 5
  have c6 := HRB3.out.cell 6
  have f6 := HRB3.out.frozen 6
  have c7 := HRB3.out.cell 7
  have f7 := HRB3.out.frozen 7
  have c8 := HRB3.out.cell 8
  have f8 := HRB3.out.frozen 8
  have c9 := HRB3.out.cell 9
  have f9 := HRB3.out.frozen 9
  refine hK.out _ _ hS2 (fun hHeld => ?_)
  clear hK K
  try simp only [Act.put, List.setIfInBounds_toArray, List.set_cons_zero, List.set_cons_succ]
  refine wpAnyH_take (i := 14) (oi := ⟨some 23, _, _, _, _, _⟩) (v := ?_) rfl (by kernel_rfl) (by kernel_rfl) (by kernel_rfl) (fun _ _ _ h => h) (Or.inl ⟨by rfl, (by intro w hSw; (try dsimp only at hSw); go_simp; try with_reducible rfl)⟩) hHeld ?_
  try simp only [Act.put, List.setIfInBounds_toArray, List.set_cons_zero, List.set_cons_succ]
  refine wpAnyH_ready (rs := [15]) (by kernel_rfl) (by simp) ?_
  refine AllReadyH.cons (o := ⟨none, _, _, _, _, _⟩) rfl (fun K hK => ?_) AllReadyH.nil
  go_simp
  have hMs := HM3.out.grown (Only.set (.slice A2 x.keys.length cp2) 9 ((Only.set (.string (S x.body)) 8 ((Only.set (.string (S x.tag)) 7 ((Only.set (.string (S x.topic)) 6 ((Only.set (.int .i64 now) 5 ((Only.set (.int .i64 0) 4 ((Only.set (.int .i64 0) 3 ((Only.set (.int .i64 due) 2 ((Only.set (.int .i64 x.queue) 1 ((Only.set (.int .i64 kind) 0 (Only.refl (g := w.heap.size + 1) (w := w3))))))))))))))))))))) (fun e => by injection e with e; omega)
  have hS2 := (And.intro (hMs.cell 0) (And.intro (hMs.cell 1) (And.intro (hMs.cell 2) (And.intro (hMs.cell 3) (hMs.cell 4)))))
  refine hK.out _ _ hS2 (fun hHeld => ?_)
  clear hK K
  try simp only [Act.put, List.setIfInBounds_toArray, List.set_cons_zero, List.set_cons_succ]
  refine wpAnyH_done (by kernel_rfl) ?_ _
  have hx := ((((((((((HRB3.out.set 0 (.int .i64 kind)).set 1 (.int .i64 x.queue)).set 2 (.int .i64 due)).set 3 (.int .i64 0)).set 4 (.int .i64 0)).set 5 (.int .i64 now)).set 6 (.string (S x.topic))).set 7 (.string (S x.tag))).set 8 (.string (S x.body))).set 9 (.slice A2 x.keys.length cp2))
  simp only [List.setIfInBounds_toArray, List.set_cons_zero, List.set_cons_succ] at hx
  have HRB4 := Lib.hid hx
  have hlt1 := HRB1.out.lt
  have HB4 := Lib.hid ((((((((((HB3.out.setCell (p := ⟨w.heap.size + 1, 0, none⟩) (by show w.heap.size ≤ w.heap.size + 1; omega) (.int .i64 kind)).setCell (p := ⟨w.heap.size + 1, 1, none⟩) (by show w.heap.size ≤ w.heap.size + 1; omega) (.int .i64 x.queue)).setCell (p := ⟨w.heap.size + 1, 2, none⟩) (by show w.heap.size ≤ w.heap.size + 1; omega) (.int .i64 due)).setCell (p := ⟨w.heap.size + 1, 3, none⟩) (by show w.heap.size ≤ w.heap.size + 1; omega) (.int .i64 0)).setCell (p := ⟨w.heap.size + 1, 4, none⟩) (by show w.heap.size ≤ w.heap.size + 1; omega) (.int .i64 0)).setCell (p := ⟨w.heap.size + 1, 5, none⟩) (by show w.heap.size ≤ w.heap.size + 1; omega) (.int .i64 now)).setCell (p := ⟨w.heap.size + 1, 6, none⟩) (by show w.heap.size ≤ w.heap.size + 1; omega) (.string (S x.topic))).setCell (p := ⟨w.heap.size + 1, 7, none⟩) (by show w.heap.size ≤ w.heap.size + 1; omega) (.string (S x.tag))).setCell (p := ⟨w.heap.size + 1, 8, none⟩) (by show w.heap.size ≤ w.heap.size + 1; omega) (.string (S x.body))).setCell (p := ⟨w.heap.size + 1, 9, none⟩) (by show w.heap.size ≤ w.heap.size + 1; omega) (.slice A2 x.keys.length cp2))
  have HK4 := Lib.hid (HK3.out.gr (((((((((((Gr.refl (fun k => k = w.heap.size + 1) w3).set (p := ⟨w.heap.size + 1, 0, none⟩) (.inl rfl) (.int .i64 kind)).set (p := ⟨w.heap.size + 1, 1, none⟩) (.inl rfl) (.int .i64 x.queue)).set (p := ⟨w.heap.size + 1, 2, none⟩) (.inl rfl) (.int .i64 due)).set (p := ⟨w.heap.size + 1, 3, none⟩) (.inl rfl) (.int .i64 0)).set (p := ⟨w.heap.size + 1, 4, none⟩) (.inl rfl) (.int .i64 0)).set (p := ⟨w.heap.size + 1, 5, none⟩) (.inl rfl) (.int .i64 now)).set (p := ⟨w.heap.size + 1, 6, none⟩) (.inl rfl) (.string (S x.topic))).set (p := ⟨w.heap.size + 1, 7, none⟩) (.inl rfl) (.string (S x.tag))).set (p := ⟨w.heap.size + 1, 8, none⟩) (.inl rfl) (.string (S x.body))).set (p := ⟨w.heap.size + 1, 9, none⟩) (.inl rfl) (.slice A2 x.keys.length cp2)) (fun b o e e2 => by have := hAb b o e; omega))
  clear hHeld hS2 hMs hx hb hk3 HM3 HRB3 HB3 HK3 HM1 HRB1 HB1 HK1 c0 f0 c1 f1 c2 f2 c3 f3 c4 f4 c5 f5 c6 f6 c7 f7 c8 f8 c9 f9
  go_wp2_with (fail)
  generalize ((((((((((w3.setCell ⟨w.heap.size + 1, 0, none⟩ (.int .i64 kind)).setCell ⟨w.heap.size + 1, 1, none⟩ (.int .i64 x.queue)).setCell ⟨w.heap.size + 1, 2, none⟩ (.int .i64 due)).setCell ⟨w.heap.size + 1, 3, none⟩ (.int .i64 0)).setCell ⟨w.heap.size + 1, 4, none⟩ (.int .i64 0)).setCell ⟨w.heap.size + 1, 5, none⟩ (.int .i64 now)).setCell ⟨w.heap.size + 1, 6, none⟩ (.string (S x.topic))).setCell ⟨w.heap.size + 1, 7, none⟩ (.string (S x.tag))).setCell ⟨w.heap.size + 1, 8, none⟩ (.string (S x.body))).setCell ⟨w.heap.size + 1, 9, none⟩ (.slice A2 x.keys.length cp2)) = w4 at *
  have y0 := HRB4.out.cell 0
  have y1 := HRB4.out.cell 1
  have y2 := HRB4.out.cell 2
  have y3 := HRB4.out.cell 3
  have y4 := HRB4.out.cell 4
  have y5 := HRB4.out.cell 5
  have y6 := HRB4.out.cell 6
  have y7 := HRB4.out.cell 7
  have y8 := HRB4.out.cell 8
  have y9 := HRB4.out.cell 9
  exact bodyPost_ret (v := .agg #[.int .i64 kind, .int .i64 x.queue, .int .i64 due, .int .i64 0, .int .i64 0, .int .i64 now, .string (S x.topic), .string (S x.tag), .string (S x.body), .slice A2 x.keys.length cp2]) (by simp [results, Tryz.results41, go_sem, y0, y1, y2, y3, y4, y5, y6, y7, y8, y9]) rfl ⟨A2, cp2, by rw [HRO.out], HK4.out, HB4.out⟩

/-- What may be sent makes a right record. -/
theorem right_of_send {L : Tops} {x : WantR} (hE : sendE L x = 0) (hL : ∀ t ∈ L, plainF t.1 = true ∧ t.2 ≤ 3) {kind due now : Int} (hk : kind = 1 ∧ due = 0 ∨ kind = 2) (d0 : 0 ≤ due) (d1 : due ≤ 1099511627776) (n0 : 0 ≤ now) (n1 : now ≤ 1099511627776) : rightF (recOf x kind due now) = true := by
  unfold sendE at hE
  split at hE
  · cases hE
  · split at hE
    · rename_i h
      exact absurd hE h
    · rename_i h1 h2
      have h2 : checkL L x.topic x.queue = 0 := Classical.not_not.1 h2
      split at hE
      · cases hE
      · split at hE
        · cases hE
        · split at hE
          · cases hE
          · split at hE
            · cases hE
            · split at hE
              · rename_i h3 h4 h5 h6 h7
                unfold checkL at h2
                split at h2
                · cases h2
                · rename_i h8
                  split at h2
                  · cases h2
                  · rename_i h9
                    have hf : ∃ t ∈ L, t.1 = x.topic ∧ queuesL L x.topic = t.2 := by
                      unfold queuesL at h8 ⊢
                      cases hf : L.find? (fun t => decide (t.1 = x.topic)) with
                      | none => rw [hf] at h8; exact absurd rfl h8
                      | some t => exact ⟨t, List.mem_of_find?_eq_some hf, by simpa using List.find?_some hf, rfl⟩
                    obtain ⟨t, ht, ht1, ht2⟩ := hf
                    have hp := hL t ht
                    have hc : carriesF (recOf x kind due now) = true := by
                      unfold carriesF recOf
                      simp only [Bool.and_eq_true, decide_eq_true_iff]
                      refine ⟨⟨⟨⟨⟨⟨⟨⟨⟨?_, by omega⟩, by omega⟩, by omega⟩, by omega⟩, by simpa using h3⟩, by omega⟩, by simpa using h4⟩, h7⟩, by omega⟩
                      unfold topicF
                      rw [← ht1, hp.1]
                      simp
                    unfold rightF
                    rw [hc]
                    have b1 : badNum due = false := badNum_iff.2 ⟨d0, d1⟩
                    have b2 : badNum 0 = false := by decide
                    have b3 : badNum now = false := badNum_iff.2 ⟨n0, n1⟩
                    show (!(badNum due || badNum 0 || badNum now) && (if kind = 1 then true && decide (due = 0) && decide ((0 : Int) = 0) else if kind = 2 ∨ kind = 3 then true else _)) = true
                    rw [b1, b2, b3]
                    rcases hk with ⟨rfl, rfl⟩ | rfl
                    · rfl
                    · rfl
              · cases hE

end Go.Proofs.YtnacjogdndggeaaGreatDoor
end

section
namespace Go.Proofs.YtnacjogdndggeaaGreatDoor
open Go.Shelf Go.RowKit Go.Lib
set_option maxRecDepth 100000
set_option maxHeartbeats 2000000

/-- A slice's cells are what is sent. -/
def WsA (w : World) (A : Option Addr) (l : List WantR) : Prop := ∀ j (hj : j < l.length), ∃ b o Aj cj, A = some ⟨b, o, none⟩ ∧ (w.cell? ⟨b, o + j * 5, none⟩ = some (.string (S l[j].topic)) ∧ w.cell? ⟨b, o + j * 5 + 1, none⟩ = some (.int .i64 l[j].queue) ∧ w.cell? ⟨b, o + j * 5 + 2, none⟩ = some (.string (S l[j].tag)) ∧ w.cell? ⟨b, o + j * 5 + 3, none⟩ = some (.slice Aj l[j].keys.length cj) ∧ w.cell? ⟨b, o + j * 5 + 4, none⟩ = some (.string (S l[j].body))) ∧ RSa w Aj l[j].keys ∧ l[j].keys.length ≤ cj
theorem WsA.below {w w' : World} {A : Option Addr} {l : List WantR} (h : WsA w A l) (hb : Below w.heap.size w w') : WsA w' A l := fun j hj => by
  obtain ⟨b, o, Aj, cj, hA, ⟨h0, h1, h2, h3, h4⟩, hr, hcj⟩ := h j hj
  exact ⟨b, o, Aj, cj, hA, ⟨(hb.cell (p := ⟨b, _, none⟩) (cell_lt h0)).trans h0, (hb.cell (p := ⟨b, _, none⟩) (cell_lt h1)).trans h1, (hb.cell (p := ⟨b, _, none⟩) (cell_lt h2)).trans h2, (hb.cell (p := ⟨b, _, none⟩) (cell_lt h3)).trans h3, (hb.cell (p := ⟨b, _, none⟩) (cell_lt h4)).trans h4⟩, hr.below hb, hcj⟩

def bigW (x : WantR) : Bool := decide (100 < x.topic.length) || (decide (100 < x.tag.length) || (decide (10 < x.keys.length) || decide (1000 < x.body.length)))
def greatW (x : WantR) : Bool := bigW x || x.keys.any (fun k => decide (100 < k.length))
def greatF (l : List WantR) : Bool := l.any greatW

theorem greatF_step {l : List WantR} {k : Nat} (h : k < l.length) : greatF (l.drop k) = (greatW l[k] || greatF (l.drop (k + 1))) := by
  rw [List.drop_eq_getElem_cons h]
  rfl
theorem keys_step {l : List (List UInt8)} {k : Nat} (h : k < l.length) : (l.drop k).any (fun k => decide (100 < k.length)) = (decide (100 < l[k].length) || (l.drop (k + 1)).any (fun k => decide (100 < k.length))) := by
  rw [List.drop_eq_getElem_cons h]
  rfl

theorem Great_any (A : Option Addr) (c : Nat) (l : List WantR) (w : World) (h : WsA w A l) (hl : l.length ≤ 1000) :
    Calls Tryz.prog 6 #[.slice A l.length c] w fun e w' => e = .returned (.bool (greatF l)) ∧ Below w.heap.size w w' := by
  have HW := Lib.hid h
  have HB := Lib.hid (Below.refl w.heap.size w)
  clear h
  go_enter Tryz.func6, Tryz.ntmps6
  go_wp2
  go_loopw [9] (fun vi wr => ∃ k : Nat, k ≤ l.length ∧ vi = .int .i64 k ∧ Hid (greatF l = greatF (l.drop k)) ∧ Hid (Below w.heap.size w wr)) (fun vi _ => l.length - (intOf vi).toNat)
  case atStart => exact ⟨0, Nat.zero_le _, rfl, Lib.hid (by rw [List.drop_zero]), HB⟩
  case round =>
    clear HB
    obtain ⟨k, hk, rfl, HS, HB⟩ := hrel
    by_cases hlt : k < l.length
    · obtain ⟨b, o, Aj, cj, rfl, ⟨h0, h1, h2, h3, h4⟩, hr, hcj⟩ := HW.out.below HB.out k hlt
      have HD := Lib.hid (greatF_step hlt)
      generalize l[k] = x at *
      obtain ⟨topic, queue, tag, keys, body⟩ := x
      simp only at h0 h1 h2 h3 h4 hr
      have HB2 := Lib.hid (HB.out.alloc HB.out.size (.cells (wantV ⟨topic, queue, tag, keys, body⟩ Aj cj) 33))
      have HM2 := Lib.hid (Blk.new wr (wantV ⟨topic, queue, tag, keys, body⟩ Aj cj) 33)
      have HK2 := Lib.hid (hr.below ((Below.refl wr.heap.size wr).alloc (Nat.le_refl _) (.cells (wantV ⟨topic, queue, tag, keys, body⟩ Aj cj) 33)))
      have HGW : Hid (greatW ⟨topic, queue, tag, keys, body⟩ = ((decide (100 < topic.length) || (decide (100 < tag.length) || (decide (10 < keys.length) || decide (1000 < body.length)))) || keys.any (fun k => decide (100 < k.length)))) := rfl
      simp only [wantV] at *
      clear hr
      go_upto_region 4 with (fail)
      generalize wr.alloc (.cells #[.string (S topic), .int .i64 queue, .string (S tag), .slice Aj keys.length cj, .string (S body)] 33) = w1 at *
      clear h0 h1 h2 h3 h4
      have m0 := HM2.out.cell 0
      have m2 := HM2.out.cell 2
      have m3 := HM2.out.cell 3
      have m4 := HM2.out.cell 4
      by_cases d0 : 100 < topic.length
      · have q0 : decide ((100 : Int) < topic.length) = true := decide_eq_true (by omega)
        go_wp2
        go_ret
        exact ⟨ret_bool (by rw [HS.out, HD.out, HGW.out]; simp [d0]), HB2.out⟩
      have q0 : decide ((100 : Int) < topic.length) = false := decide_eq_false (by omega)
      by_cases d1 : 100 < tag.length
      · have q1 : decide ((100 : Int) < tag.length) = true := decide_eq_true (by omega)
        go_wp2
        go_ret
        exact ⟨ret_bool (by rw [HS.out, HD.out, HGW.out]; simp [d1]), HB2.out⟩
      have q1 : decide ((100 : Int) < tag.length) = false := decide_eq_false (by omega)
      by_cases d2 : 10 < keys.length
      · have q2 : decide ((10 : Int) < keys.length) = true := decide_eq_true (by omega)
        go_wp2
        go_ret
        exact ⟨ret_bool (by rw [HS.out, HD.out, HGW.out]; simp [d2]), HB2.out⟩
      have q2 : decide ((10 : Int) < keys.length) = false := decide_eq_false (by omega)
      by_cases d3 : 1000 < body.length
      · have q3 : decide ((1000 : Int) < body.length) = true := decide_eq_true (by omega)
        go_wp2
        go_ret
        exact ⟨ret_bool (by rw [HS.out, HD.out, HGW.out]; simp [d3]), HB2.out⟩
      have q3 : decide ((1000 : Int) < body.length) = false := decide_eq_false (by omega)
      have HD2 := Lib.hid (show greatF (l.drop k) = (keys.any (fun k => decide (100 < k.length)) || greatF (l.drop (k + 1))) by
        rw [HD.out, HGW.out]
        simp [d0, d1, d2, d3])
      have HL2 := Lib.hid (show keys.length ≤ 10 by omega)
      clear HGW HD d0 d1 d2 d3
      go_upto_region 7 with (fail)
      clear q0 q1 q2 q3 m0 m2 m3 m4
      go_loopw [38] (fun vi wz => ∃ j : Nat, j ≤ keys.length ∧ vi = .int .i64 j ∧ Hid (keys.any (fun k => decide (100 < k.length)) = (keys.drop j).any (fun k => decide (100 < k.length))) ∧ Hid (Below w1.heap.size w1 wz)) (fun vi _ => keys.length - (intOf vi).toNat)
      case atStart => exact ⟨0, Nat.zero_le _, rfl, Lib.hid (by rw [List.drop_zero]), Lib.hid (Below.refl _ _)⟩
      case round =>
        rename_i wz _
        obtain ⟨j, hj, rfl, HSj, HBj⟩ := hrel
        have hkl := HL2.out
        by_cases hlj : j < keys.length
        · obtain ⟨b2, o2, rfl, hc⟩ := HK2.out.below HBj.out j hlj
          have HDj := Lib.hid (keys_step hlj)
          rw [show keys.getD j [] = keys[j] by rw [List.getD_eq_getElem?_getD, List.getElem?_eq_getElem hlj]; rfl] at hc
          generalize keys[j] = y at *
          by_cases dy : 100 < y.length
          · have qy : decide ((100 : Int) < y.length) = true := decide_eq_true (by omega)
            go_wp2
            go_ret
            exact ⟨ret_bool (by rw [HS.out, HD2.out, HSj.out, HDj.out]; simp [dy]), HB2.out.trans (HBj.out.mono HB2.out.size)⟩
          · have qy : decide ((100 : Int) < y.length) = false := decide_eq_false (by omega)
            go_wp2
            exact ⟨⟨j + 1, hlj, by go_num, Lib.hid (by rw [HSj.out, HDj.out]; simp [dy]), HBj⟩, by simp [intOf]; omega⟩
        · have hjn : j = keys.length := by omega
          subst hjn
          have HSK := Lib.hid (show greatF l = greatF (l.drop (k + 1)) by rw [HS.out, HD2.out, HSj.out, List.drop_length]; rfl)
          have HB3 := Lib.hid (HB2.out.trans (HBj.out.mono HB2.out.size))
          go_wp2
          exact ⟨⟨k + 1, hlt, by go_num, HSK, HB3⟩, by simp [intOf]; omega⟩
    · have hkn : k = l.length := by omega
      subst hkn
      go_wp2
      go_ret
      exact ⟨ret_bool (by rw [HS.out, List.drop_length]; rfl), HB.out⟩

end Go.Proofs.YtnacjogdndggeaaGreatDoor
end

section
namespace Go.Proofs.YtnacjogdndggeaaGreatDoor
open Go.ChangeShapes Go.WideShapes Go.ChangeAt Go.RowKit
set_option maxRecDepth 100000

theorem own : ownKnob Tryz.prog.godebug = none := by kernel_rfl
theorem laidOut : laidOutB Tryz.prog = true := by kernel_rfl

theorem row_cell {W : World} {x : Addr} {j : Nat} {u v : Value} (h0 : W.cell? (x.add 0) = some u) (h : W.cell? (x.add j) = some v) : ∃ b o, x = ⟨b, o, none⟩ ∧ W.cell? ⟨b, o + j, none⟩ = some v := by
  obtain ⟨b, off, spot⟩ := x
  have hspot : spot = none := by simpa [Addr.add] using World.cell?_spot h0
  subst hspot
  refine ⟨b, off, rfl, ?_⟩
  have ha : (⟨b, off, none⟩ : Addr).add j = ⟨b, off + j, none⟩ := by unfold Addr.add; split <;> simp_all
  rwa [ha] at h

theorem getD_take {α : Type} {l : List α} {n j : Nat} (d : α) (h : j < (l.take n).length) : (l.take n).getD j d = l.getD j d := by
  rw [List.getD_eq_getElem?_getD, List.getD_eq_getElem?_getD, List.getElem?_take]
  rw [if_pos (by rw [List.length_take] at h; omega)]

theorem open_RIa {W : World} {H : Type} {enc : TypeId × Value → H} {a : Option Addr} {len cap : Nat} {d : DataW H} {p : List MemPlace} (h : DataW.Trod enc Tryz.prog W 0 (fun _ => true) true 35 (.slice a len cap) d p) :
    ∃ zs : List Int, zs.length = len ∧ RIa W a zs ∧ ∀ n, n ∈ zs → (Lit.int .i64 n).wf = true := by
  obtain ⟨fuel, hf⟩ := h
  rcases open_ints Tryz.underlying35 Tryz.underlying3 (by kernel_rfl) hf with ⟨hcs, _⟩ | ⟨x, l, c, zs, hcs, _, hl, hm, hz, _, hcell, hwz⟩
  · simp [Value.cells] at hcs
    obtain ⟨rfl, rfl, rfl⟩ := hcs
    exact ⟨[], rfl, fun j hj => by simp at hj, by simp⟩
  · simp [Value.cells] at hcs
    obtain ⟨rfl, rfl, rfl⟩ := hcs
    have hz' : zs.length = cap := by simpa using hz
    refine ⟨zs.take len, by simp; omega, fun j hj => ?_, fun n hn => hwz n (List.mem_of_mem_take hn)⟩
    obtain ⟨b, o, rfl, hc⟩ := row_cell (hcell 0 (by rw [List.length_take] at hj; omega)) (hcell j (by rw [List.length_take] at hj; omega))
    exact ⟨b, o, rfl, by rw [getD_take 0 hj]; exact hc⟩

theorem S_getD (ss : List ByteArray) (j : Nat) : S ((ss.map fun s => s.data.toList).getD j []) = ss.getD j ByteArray.empty := by
  rw [List.getD_eq_getElem?_getD, List.getD_eq_getElem?_getD, List.getElem?_map]
  cases ss[j]? with
  | none => rfl
  | some s => rfl

theorem open_RSa {W : World} {H : Type} {enc : TypeId × Value → H} {a : Option Addr} {len cap : Nat} {d : DataW H} {p : List MemPlace} (h : DataW.Trod enc Tryz.prog W 0 (fun _ => true) true 31 (.slice a len cap) d p) :
    ∃ ts : List (List UInt8), ts.length = len ∧ RSa W a ts := by
  obtain ⟨fuel, hf⟩ := h
  rcases open_strings Tryz.underlying31 Tryz.underlying9 (by kernel_rfl) hf with ⟨hcs, _⟩ | ⟨x, l, c, ss, hcs, _, hl, hm, hz, _, hcell, hwz⟩
  · simp [Value.cells] at hcs
    obtain ⟨rfl, rfl, rfl⟩ := hcs
    exact ⟨[], rfl, fun j hj => by simp at hj⟩
  · simp [Value.cells] at hcs
    obtain ⟨rfl, rfl, rfl⟩ := hcs
    have hz' : ss.length = cap := by simpa using hz
    refine ⟨(ss.take len).map fun s => s.data.toList, by simp; omega, fun j hj => ?_⟩
    rw [List.length_map] at hj
    obtain ⟨b, o, rfl, hc⟩ := row_cell (hcell 0 (by rw [List.length_take] at hj; omega)) (hcell j (by rw [List.length_take] at hj; omega))
    exact ⟨b, o, rfl, by rw [S_getD, getD_take ByteArray.empty hj]; exact hc⟩

theorem list8 {xs : List Int} (h : xs.length = 8) : ∃ a b c d e f g i, xs = [a, b, c, d, e, f, g, i] := by
  match xs, h with
  | [a, b, c, d, e, f, g, i], _ => exact ⟨a, b, c, d, e, f, g, i, rfl⟩
theorem list4 {xs : List Int} (h : xs.length = 4) : ∃ a b c d, xs = [a, b, c, d] := by
  match xs, h with
  | [a, b, c, d], _ => exact ⟨a, b, c, d, rfl⟩

/-- A nil slice has no room. -/
theorem open_nil {W : World} {H : Type} {enc : TypeId × Value → H} {len cap : Nat} {d : DataW H} {p : List MemPlace} (h : DataW.Trod enc Tryz.prog W 0 (fun _ => true) true 31 (.slice none len cap) d p) : cap = 0 := by
  obtain ⟨fuel, hf⟩ := h
  rcases open_strings Tryz.underlying31 Tryz.underlying9 (by kernel_rfl) hf with ⟨hcs, _⟩ | ⟨x, l, c, ss, hcs, _⟩
  · simp [Value.cells] at hcs
    exact hcs.2
  · simp [Value.cells] at hcs

end Go.Proofs.YtnacjogdndggeaaGreatDoor
end

section
namespace Go.Proofs.YtnacjogdndggeaaGreatDoor
open Go.ChangeShapes Go.WideShapes Go.ChangeAt Go.RowKit
set_option maxRecDepth 100000
set_option maxHeartbeats 1000000

theorem list_choose {α : Type} {P : Nat → α → Prop} : ∀ n : Nat, (∀ i, i < n → ∃ y, P i y) → ∃ l : List α, l.length = n ∧ ∀ i (h : i < l.length), P i l[i]
  | 0, _ => ⟨[], rfl, fun i h => absurd h (by simp)⟩
  | n + 1, hp => by
    obtain ⟨l, hl, hP⟩ := list_choose n fun i hi => hp i (by omega)
    obtain ⟨y, hy⟩ := hp n (by omega)
    refine ⟨l ++ [y], by simp [hl], fun i hi => ?_⟩
    rcases Nat.lt_or_ge i l.length with h | h
    · rw [List.getElem_append_left h]
      exact hP i h
    · have e : i = n := by simp at hi; omega
      subst e
      rw [List.getElem_append_right h]
      simpa [hl] using hy

theorem S_back (s : ByteArray) : S s.data.toList = s := rfl

theorem open_want {W : World} {H : Type} {enc : TypeId × Value → H} {cs : List Value} {x : DataW H × List MemPlace} {fuel : Nat} (h : DataW.trod enc Tryz.prog W 0 (fun _ => true) true fuel 33 cs = some x) :
    ∃ (y : WantR) (A : Option Addr) (c : Nat), cs = (wantV y A c).toList ∧ RSa W A y.keys ∧ y.keys.length ≤ c := by
  obtain ⟨xs, m, rfl, _, hcs, hxs, hel⟩ := DataW.trod_struct Tryz.underlying33 h
  rw [show Tryz.prog.cellsOf 33 = 5 by kernel_rfl] at hcs
  have hx5 : xs.length = 5 := hxs
  have cS : Tryz.prog.cellsOf 9 = 1 := by kernel_rfl
  have cI : Tryz.prog.cellsOf 3 = 1 := by kernel_rfl
  have cT : Tryz.prog.cellsOf 31 = 1 := by kernel_rfl
  match cs, hcs, xs, hx5, hel with
  | [c0, c1, c2, c3, c4], _, [x0, x1, x2, x3, x4], _, hel =>
    have h0 : DataW.trod enc Tryz.prog W 0 (fun _ => true) true m 9 (([c0, c1, c2, c3, c4].drop 0).take (Tryz.prog.cellsOf 9)) = some x0 := hel 0 _ rfl
    have h1 : DataW.trod enc Tryz.prog W 0 (fun _ => true) true m 3 (([c0, c1, c2, c3, c4].drop 1).take (Tryz.prog.cellsOf 3)) = some x1 := hel 1 _ rfl
    have h2 : DataW.trod enc Tryz.prog W 0 (fun _ => true) true m 9 (([c0, c1, c2, c3, c4].drop 2).take (Tryz.prog.cellsOf 9)) = some x2 := hel 2 _ rfl
    have h3 : DataW.trod enc Tryz.prog W 0 (fun _ => true) true m 31 (([c0, c1, c2, c3, c4].drop 3).take (Tryz.prog.cellsOf 31)) = some x3 := hel 3 _ rfl
    have h4 : DataW.trod enc Tryz.prog W 0 (fun _ => true) true m 9 (([c0, c1, c2, c3, c4].drop 4).take (Tryz.prog.cellsOf 9)) = some x4 := hel 4 _ rfl
    rw [cS] at h0 h2 h4
    rw [cI] at h1
    rw [cT] at h3
    obtain ⟨s0, e0, _, _⟩ := DataW.trod_string Tryz.underlying9 h0
    obtain ⟨q, e1, _, _⟩ := DataW.trod_int Tryz.underlying3 h1
    obtain ⟨s2, e2, _, _⟩ := DataW.trod_string Tryz.underlying9 h2
    obtain ⟨s4, e4, _, _⟩ := DataW.trod_string Tryz.underlying9 h4
    obtain rfl : c0 = .string s0 := by simpa using e0
    obtain rfl : c1 = .int .i64 q := by simpa using e1
    obtain rfl : c2 = .string s2 := by simpa using e2
    obtain rfl : c4 = .string s4 := by simpa using e4
    have h3' : DataW.trod enc Tryz.prog W 0 (fun _ => true) true m 31 [c3] = some x3 := h3
    have hsl : ∃ a len cap, c3 = .slice a len cap ∧ len ≤ cap := by
      rcases open_strings Tryz.underlying31 Tryz.underlying9 (by kernel_rfl) h3' with ⟨hc, _⟩ | ⟨a, len, cap, ss, hc, _, hl, _⟩
      · exact ⟨none, 0, 0, by simpa using hc, Nat.le_refl _⟩
      · exact ⟨some a, len, cap, by simpa using hc, hl⟩
    obtain ⟨a, len, cap, rfl, hlc⟩ := hsl
    obtain ⟨ts, hts, hr⟩ := open_RSa (a := a) (len := len) (cap := cap) (d := x3.1) (p := x3.2) ⟨m, by simpa [Value.cells] using h3'⟩
    refine ⟨⟨s0.data.toList, q, s2.data.toList, ts, s4.data.toList⟩, a, cap, ?_, hr, by rw [hts]; exact hlc⟩
    simp only [wantV, S_back, hts]

theorem open_wants {W : World} {H : Type} {enc : TypeId × Value → H} {a : Option Addr} {len cap : Nat} {d : DataW H} {p : List MemPlace} (h : DataW.Trod enc Tryz.prog W 0 (fun _ => true) true 22 (.slice a len cap) d p) :
    ∃ l : List WantR, l.length = len ∧ WsA W a l := by
  obtain ⟨fuel, hf⟩ := h
  rcases DataW.trod_slice Tryz.underlying22 hf with ⟨hcs, _⟩ | ⟨x, l, c, elems, rest, n, _, hcs, _, _, hl, hm, hlen, hel, _⟩
  · simp [Value.cells] at hcs
    obtain ⟨rfl, rfl, rfl⟩ := hcs
    exact ⟨[], rfl, fun j hj => by simp at hj⟩
  · simp [Value.cells] at hcs
    obtain ⟨rfl, rfl, rfl⟩ := hcs
    rw [show Tryz.prog.cellsOf 33 = 5 by kernel_rfl] at hel
    have atE : ∀ i, i < len → ∃ (y : WantR) (A : Option Addr) (c : Nat), RSa W A y.keys ∧ y.keys.length ≤ c ∧ ∀ j v, j < 5 → (wantV y A c).toList[j]? = some v → W.cell? ((x.add (i * 5)).add j) = some v := by
      intro i hi
      have hE := hel i hi
      rw [List.getElem?_eq_getElem (by omega), Option.bind_eq_some_iff] at hE
      obtain ⟨cs, hc, ht⟩ := hE
      obtain ⟨y, A, c, rfl, hr, hk⟩ := open_want ht
      obtain ⟨_, _, hcell⟩ := World.cells?_some hc
      exact ⟨y, A, c, hr, hk, fun j v hj hv => by rw [hcell j hj]; exact hv⟩
    have key : ∀ i, i < len → ∃ y : WantR, ∃ b o Aj cj, some x = some (⟨b, o, none⟩ : Addr) ∧ (W.cell? ⟨b, o + i * 5, none⟩ = some (.string (S y.topic)) ∧ W.cell? ⟨b, o + i * 5 + 1, none⟩ = some (.int .i64 y.queue) ∧ W.cell? ⟨b, o + i * 5 + 2, none⟩ = some (.string (S y.tag)) ∧ W.cell? ⟨b, o + i * 5 + 3, none⟩ = some (.slice Aj y.keys.length cj) ∧ W.cell? ⟨b, o + i * 5 + 4, none⟩ = some (.string (S y.body))) ∧ RSa W Aj y.keys ∧ y.keys.length ≤ cj := by
      intro i hi
      obtain ⟨y0, A0, c0, _, _, hat0⟩ := atE 0 (by omega)
      obtain ⟨y, A, c, hr, hk, hat⟩ := atE i hi
      obtain ⟨b, o, spot⟩ := x
      have hs : spot = none := by
        have h1 := World.cell?_spot (hat0 0 _ (by omega) rfl)
        simpa [Addr.add] using h1
      subst hs
      refine ⟨y, b, o, A, c, rfl, ⟨?_, ?_, ?_, ?_, ?_⟩, hr, hk⟩
      · simpa [Addr.add_mid] using hat 0 _ (by omega) rfl
      · simpa [Addr.add_mid] using hat 1 _ (by omega) rfl
      · simpa [Addr.add_mid] using hat 2 _ (by omega) rfl
      · simpa [Addr.add_mid] using hat 3 _ (by omega) rfl
      · simpa [Addr.add_mid] using hat 4 _ (by omega) rfl
    exact list_choose len key

end Go.Proofs.YtnacjogdndggeaaGreatDoor
end
