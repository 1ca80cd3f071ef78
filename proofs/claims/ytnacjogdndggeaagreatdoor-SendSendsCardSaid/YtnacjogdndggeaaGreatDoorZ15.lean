/- The shelf on slices.Sorted(maps.Keys(m)), laid at this translation in plain words by the tools of the kit. -/
import Derived.Shelf.SlIter.Nil
import Derived.Shelf.SlIter.Sorted
import Derived.Ground.GgzProg
import Derived.Shelf.SlGeneric
import Derived.Test.YtnacjogdndggeaaGreatDoorProg
import Derived.Test.YtnacjogdndggeaaGreatDoorZ05
section
namespace Go.Proofs
open Go.RowKit Go.Maps Go.Sort Go.Shelf
def Tryz.keys175_ren : Go.Shelf.Ren := ⟨fun | 7 => 175 | 10 => 225 | n => n, fun | 23 => 72 | 26 => 9 | 3 => 262 | 28 => 143 | 0 => 0 | 27 => 142 | 33 => 82 | 4 => 4 | n => n, fun | n => n⟩
theorem Tryz.keys175 : Go.Proofs.SlLaysZ.n7 Tryz.prog Tryz.keys175_ren := {
  mixed := by kernel_rfl
  f7 := ⟨Tryz.f175.name, by decide, Tryz.func175.trans (congrArg some (by kernel_rfl))⟩
  f10 := ⟨Tryz.f225.name, by decide, Tryz.func225.trans (congrArg some (by kernel_rfl))⟩
  t0 := Tryz.underlying0
  a0 := Tryz.isAgg0
  z0 := Tryz.sizeOf0
  v0 := Tryz.zeroValue0
  t4 := Tryz.underlying4
  a4 := Tryz.isAgg4
  z4 := Tryz.sizeOf4
  v4 := Tryz.zeroValue4
  t23 := Tryz.underlying72
  a23 := Tryz.isAgg72
  z23 := Tryz.sizeOf72
  v23 := Tryz.zeroValue72
  t26 := Tryz.underlying9
  a26 := Tryz.isAgg9
  z26 := Tryz.sizeOf9
  v26 := Tryz.zeroValue9
  t27 := Tryz.underlying142
  a27 := Tryz.isAgg142
  z27 := Tryz.sizeOf142
  v27 := Tryz.zeroValue142
  t28 := Tryz.underlying143
  a28 := Tryz.isAgg143
  z28 := Tryz.sizeOf143
  v28 := Tryz.zeroValue143
  t33 := Tryz.underlying82
  a33 := Tryz.isAgg82
  z33 := Tryz.sizeOf82
  v33 := Tryz.zeroValue82 }
def Tryz.sorted81_ren : Go.Shelf.Ren := ⟨fun | 6 => 81 | 8 => 139 | 9 => 140 | 11 => 200 | 13 => 93 | 12 => 201 | 23 => 156 | 24 => 157 | 14 => 240 | 15 => 241 | 16 => 242 | 17 => 243 | 18 => 244 | 19 => 245 | 20 => 246 | 21 => 247 | 22 => 248 | 25 => 265 | 26 => 208 | 27 => 209 | 28 => 266 | 29 => 267 | 30 => 268 | 31 => 283 | n => n, fun | 26 => 9 | 28 => 143 | 24 => 31 | 0 => 0 | 3 => 3 | 37 => 153 | 48 => 219 | 50 => 221 | 4 => 4 | 40 => 213 | 39 => 212 | 45 => 130 | 5 => 5 | 9 => 9 | 51 => 294 | 55 => 298 | 57 => 333 | 58 => 334 | 33 => 82 | n => n, fun | n => n⟩
theorem Tryz.sorted81 : Go.Proofs.SlLaysZ.n6 Tryz.prog Tryz.sorted81_ren := {
  mixed := by kernel_rfl
  f6 := ⟨Tryz.f81.name, by decide, Tryz.func81.trans (congrArg some (by kernel_rfl))⟩
  f8 := ⟨Tryz.f139.name, by decide, Tryz.func139.trans (congrArg some (by kernel_rfl))⟩
  f11 := ⟨Tryz.f200.name, by decide, Tryz.func200.trans (congrArg some (by kernel_rfl))⟩
  t0 := Tryz.underlying0
  a0 := Tryz.isAgg0
  z0 := Tryz.sizeOf0
  v0 := Tryz.zeroValue0
  t24 := Tryz.underlying31
  a24 := Tryz.isAgg31
  z24 := Tryz.sizeOf31
  v24 := Tryz.zeroValue31
  t26 := Tryz.underlying9
  a26 := Tryz.isAgg9
  z26 := Tryz.sizeOf9
  v26 := Tryz.zeroValue9
  t28 := Tryz.underlying143
  a28 := Tryz.isAgg143
  z28 := Tryz.sizeOf143
  v28 := Tryz.zeroValue143
  i26 := by kernel_rfl }
/-- slices.Sort's two contracts at this dump, at the fence that asks nothing. -/
theorem Tryz.sorts81 (m : Nat) : AnyZ.SortsIn Tryz.prog Tryz.sorted81_ren Fence.wide m :=
  ⟨fun blk off cap ss W hH hblk hsz => callsIn_wide.2 (Tryz.slices_Sort_string blk off cap ss W hH hblk hsz),
   fun p cap W => callsIn_wide.2 (Tryz.slices_Sort_string_none p cap W)⟩

/-- **maps.Keys[map[string]*reveille/disk.file,string,*reveille/disk.file], at whatever map, the nil one too:** a function value over ONE NEW BLOCK, which holds the map. -/
theorem Tryz.maps_Keys_175 (mb : Option Nat) (W : World) : CallsIn Fence.wide 5 Tryz.prog 175 #[.map mb] W fun e w' => e = .returned (.func (.func 225) #[] #[.pointer (some ⟨W.heap.size, 0, none⟩)]) ∧ w' = W.alloc (.cells #[.map mb] 72) :=
  AnyZ.keys_in Tryz.keys175 Fence.wide 5 trivial rfl mb W

set_option maxHeartbeats 1000000 in
/-- **slices.Sorted[string] AT WHAT maps.Keys[map[string]*reveille/disk.file,string,*reveille/disk.file] HANDED BACK FOR A MAP THAT IS NOT nil** ('w': the world AHEAD of maps.Keys' call): A NEW SLICE THAT HOLDS THE MAP's KEYS, SORTED; nil just where it has none; nothing that lay before has turned. -/
theorem Tryz.slices_Sorted_keys_81_175 {H : Type} (b nn : Nat) (D0 : DataW H) (R : Value → Option (DataW H × List MemPlace)) (w : World) (hown : w.ownsMap Tryz.prog 9 R b nn D0) (hmax : Maps.size D0 ≤ maxLen) (hbytes : Maps.size D0 * 16 ≤ 140737488355328) :
    CallsIn Fence.wide 5 Tryz.prog 81 #[.func (.func 225) #[] #[.pointer (some ⟨w.heap.size, 0, none⟩)]] (w.alloc (.cells #[.map (some b)] 72)) fun e w' => ∃ (v : Value) (ss : List (List UInt8)), e = .returned v ∧ ss.Perm (strKeys D0) ∧
      w'.ownsRow (w.alloc (.cells #[.map (some b)] 72)).heap.size 9 1 v ss.length ((ss.mergeSort (fun x y => decide (x ≤ y))).map encStr) ∧ (v = .slice none 0 0 ↔ ss = []) ∧ Below (w.alloc (.cells #[.map (some b)] 72)).heap.size (w.alloc (.cells #[.map (some b)] 72)) w' := by
  have hbl := hown.lt
  have hseq : SeqGives Fence.wide 2 Tryz.prog 225 #[.pointer (some ⟨w.heap.size, 0, none⟩)] encStr (fun ss => ss.Perm (strKeys D0)) (Maps.size D0) (w.alloc (.cells #[.map (some b)] 72)) :=
    AnyZ.keys_gives (ρ := Tryz.keys175_ren) { Tryz.keys175 with } Fence.wide _ trivial rfl (by omega) w.heap.size b nn D0 _ (by simp) (by simp) (by
      obtain ⟨es, clock, hb, Ft, hs, hD⟩ := hown
      exact ⟨es, clock, (Below.heap_alloc _ _ b hbl).trans hb, Ft, hs, hD⟩)
  exact AnyZ.sorted_in Tryz.sorted81 Fence.wide 5 trivial trivial trivial trivial rfl (by omega) (Tryz.sorts81 _) (enters_of Tryz.func140 (by kernel_rfl) rfl) 225 #[.pointer (some ⟨w.heap.size, 0, none⟩)] trivial (enters_of Tryz.func225 (by kernel_rfl) rfl) _ _ hmax hbytes _ hseq

set_option maxHeartbeats 1000000 in
/-- **.. AND FOR THE nil MAP: nil.** -/
theorem Tryz.slices_Sorted_keys_nil_81_175 (w : World) :
    CallsIn Fence.wide 5 Tryz.prog 81 #[.func (.func 225) #[] #[.pointer (some ⟨w.heap.size, 0, none⟩)]] (w.alloc (.cells #[.map none] 72)) fun e w' => ∃ (v : Value) (ss : List (List UInt8)), e = .returned v ∧ ss = [] ∧
      w'.ownsRow (w.alloc (.cells #[.map none] 72)).heap.size 9 1 v ss.length ((ss.mergeSort (fun x y => decide (x ≤ y))).map encStr) ∧ (v = .slice none 0 0 ↔ ss = []) ∧ Below (w.alloc (.cells #[.map none] 72)).heap.size (w.alloc (.cells #[.map none] 72)) w' := by
  have hseq : SeqGives Fence.wide 2 Tryz.prog 225 #[.pointer (some ⟨w.heap.size, 0, none⟩)] encStr (fun ss : List (List UInt8) => ss = []) 0 (w.alloc (.cells #[.map none] 72)) :=
    AnyZ.keys_gives_nil (ρ := Tryz.keys175_ren) { Tryz.keys175 with } Fence.wide _ trivial rfl w.heap.size _ (by simp) (by simp)
  exact AnyZ.sorted_in Tryz.sorted81 Fence.wide 5 trivial trivial trivial trivial rfl (by omega) (Tryz.sorts81 _) (enters_of Tryz.func140 (by kernel_rfl) rfl) 225 #[.pointer (some ⟨w.heap.size, 0, none⟩)] trivial (enters_of Tryz.func225 (by kernel_rfl) rfl) _ 0 (Nat.zero_le _) (by omega) _ hseq

-- THE CALLER's WALK over 'slices.Sorted(maps.Keys(m))' (inside '(callsIn_wide (n := 6)).1'; 'have hfK : Fence.wide.fn 175 := trivial', 'have hfS : Fence.wide.fn 81 := trivial' ahead): THE TWO ARMS TO PASTE:
--   gi_wp2_with (first
--     | (gi_at_call 175; refine (Tryz.maps_Keys_175 _ _).mono ?_; rintro e w' ⟨rfl, rfl⟩)
--     | (gi_at_call 81; refine (Tryz.slices_Sorted_keys_81_175 b nn D0 R w hown hmax hbytes).mono ?_; rintro e w' ⟨v, ss, rfl, hS, hrow, hnil, hb⟩))

-- maps.Keys[map[int]reveille/pend.one,int,reveille/pend.one]: its keys are of no string's kind: not laid by this program
end Go.Proofs
end
