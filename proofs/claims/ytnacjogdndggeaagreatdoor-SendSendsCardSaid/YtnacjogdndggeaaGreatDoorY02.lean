/- The shelf on slices.Collect(maps.Keys(m)) at keys of kind int, laid at this translation in plain words by the tools of the kit. -/
import Derived.Shelf.SlIterI.Collect
import Derived.Ground.GgzProg
import Derived.Shelf.SlGeneric
import Derived.Test.YtnacjogdndggeaaGreatDoorProg
section
namespace Go.Proofs
open Go.Shelf
def Tryz.keysI_ren : Go.Shelf.Ren := ⟨fun | 7 => 45 | 10 => 90 | n => n, fun | 23 => 105 | 26 => 3 | 3 => 107 | 28 => 103 | 0 => 0 | 27 => 102 | 33 => 111 | 4 => 4 | n => n, fun | n => n⟩
theorem Tryz.keysI : Go.Proofs.SlLaysZI.n7 Tryz.prog Tryz.keysI_ren := {
  mixed := by kernel_rfl
  f7 := ⟨Tryz.f45.name, by decide, Tryz.func45.trans (congrArg some (by kernel_rfl))⟩
  f10 := ⟨Tryz.f90.name, by decide, Tryz.func90.trans (congrArg some (by kernel_rfl))⟩
  t0 := Tryz.underlying0
  a0 := Tryz.isAgg0
  z0 := Tryz.sizeOf0
  v0 := Tryz.zeroValue0
  t4 := Tryz.underlying4
  a4 := Tryz.isAgg4
  z4 := Tryz.sizeOf4
  v4 := Tryz.zeroValue4
  t23 := Tryz.underlying105
  a23 := Tryz.isAgg105
  z23 := Tryz.sizeOf105
  v23 := Tryz.zeroValue105
  t26 := Tryz.underlying3
  a26 := Tryz.isAgg3
  z26 := Tryz.sizeOf3
  v26 := Tryz.zeroValue3
  t27 := Tryz.underlying102
  a27 := Tryz.isAgg102
  z27 := Tryz.sizeOf102
  v27 := Tryz.zeroValue102
  t28 := Tryz.underlying103
  a28 := Tryz.isAgg103
  z28 := Tryz.sizeOf103
  v28 := Tryz.zeroValue103
  t33 := Tryz.underlying111
  a33 := Tryz.isAgg111
  z33 := Tryz.sizeOf111
  v33 := Tryz.zeroValue111 }
def Tryz.collI_ren : Go.Shelf.Ren := ⟨fun | 8 => 44 | 11 => 89 | n => n, fun | 26 => 3 | 28 => 103 | 24 => 35 | 0 => 0 | 33 => 111 | 4 => 4 | n => n, fun | n => n⟩
theorem Tryz.collI : Go.Proofs.SlLaysZI.n8 Tryz.prog Tryz.collI_ren := {
  mixed := by kernel_rfl
  f8 := ⟨Tryz.f44.name, by decide, Tryz.func44.trans (congrArg some (by kernel_rfl))⟩
  f11 := ⟨Tryz.f89.name, by decide, Tryz.func89.trans (congrArg some (by kernel_rfl))⟩
  t0 := Tryz.underlying0
  a0 := Tryz.isAgg0
  z0 := Tryz.sizeOf0
  v0 := Tryz.zeroValue0
  t24 := Tryz.underlying35
  a24 := Tryz.isAgg35
  z24 := Tryz.sizeOf35
  v24 := Tryz.zeroValue35
  t26 := Tryz.underlying3
  a26 := Tryz.isAgg3
  z26 := Tryz.sizeOf3
  v26 := Tryz.zeroValue3
  t28 := Tryz.underlying103
  a28 := Tryz.isAgg103
  z28 := Tryz.sizeOf103
  v28 := Tryz.zeroValue103
  i26 := by kernel_rfl }
end Go.Proofs
end
