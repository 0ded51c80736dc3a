/- Contracts of the library, laid at this program (wip/tools/mkKe.py). -/
import Derived.Shelf.SlicesE.DeleteFunc
import Derived.Test.YtnkpleggmiamdaaProg
namespace Go.Proofs.Ytnkpleggmiamdaa.Ke
open Go.Shelf
set_option linter.unusedVariables false
def delA_ren : Go.Shelf.Ren := ⟨fun | 10 => 70 | 6 => 90 | n => n, fun | 22 => 22 | 23 => 3 | 25 => 64 | 3 => 3 | 4 => 4 | 0 => 0 | n => n, fun | n => n⟩
set_option maxRecDepth 100000 in
theorem delA : Go.Proofs.SlLaysH.n10 Try.prog delA_ren := {
  mixed := by kernel_rfl,
  f6 := ⟨Try.f90.name, by decide, Try.func90.trans (congrArg some (by kernel_rfl))⟩,
  f10 := ⟨Try.f70.name, by decide, Try.func70.trans (congrArg some (by kernel_rfl))⟩,
  t0 := Try.underlying0,
  a0 := Try.isAgg0,
  z0 := Try.sizeOf0,
  v0 := Try.zeroValue0,
  t3 := Try.underlying3,
  a3 := Try.isAgg3,
  z3 := Try.sizeOf3,
  v3 := Try.zeroValue3,
  t4 := Try.underlying4,
  a4 := Try.isAgg4,
  z4 := Try.sizeOf4,
  v4 := Try.zeroValue4,
  t22 := Try.underlying22,
  a22 := Try.isAgg22,
  z22 := Try.sizeOf22,
  v22 := Try.zeroValue22,
  a23 := Try.isAgg3,
  z23 := Try.sizeOf3,
  t25 := Try.underlying64,
  a25 := Try.isAgg64,
  z25 := Try.sizeOf64,
  v25 := Try.zeroValue64 }
end Go.Proofs.Ytnkpleggmiamdaa.Ke
