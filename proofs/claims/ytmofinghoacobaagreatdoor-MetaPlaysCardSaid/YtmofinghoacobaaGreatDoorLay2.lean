import Derived.Shelf.SlMaps.Clone
import Derived.Test.YtmofinghoacobaaGreatDoorProg
namespace Go.Proofs
open Go.Shelf
def Tryz.cloneA_ren : Go.Shelf.Ren := ⟨fun | 5 => 64 | 7 => 105 | n => n, fun | 23 => 67 | 25 => 3 | 3 => 78 | 4 => 4 | 20 => 20 | n => n, fun | n => n⟩
theorem Tryz.cloneA : Go.Proofs.SlLaysW.n5 Tryz.prog Tryz.cloneA_ren := {
  mixed := by kernel_rfl
  f5 := ⟨Tryz.f64.name, by decide, Tryz.func64.trans (congrArg some (by kernel_rfl))⟩
  f7 := Tryz.func105.trans (congrArg some (by kernel_rfl))
  t4 := Tryz.underlying4
  a4 := Tryz.isAgg4
  z4 := Tryz.sizeOf4
  v4 := Tryz.zeroValue4
  t20 := Tryz.underlying20
  a20 := Tryz.isAgg20
  z20 := Tryz.sizeOf20
  v20 := Tryz.zeroValue20
  t23 := Tryz.underlying67
  a23 := Tryz.isAgg67
  z23 := Tryz.sizeOf67
  v23 := Tryz.zeroValue67 }
end Go.Proofs
