/- Kept of the text KeM: what is reached (wip/tools/prune.py). -/
import Derived.Shelf.SlicesG.Clone
import Derived.Shelf.SlicesE.DeleteFunc
import Derived.Shelf.Spec.SlicesInsert
import Derived.Shelf.Spec.SlicesInsertGrow
import Derived.Test.YtkeadpichlgagaaProg
namespace Go.Proofs.Ytkeadpichlgagaa.Ke
open Go.Shelf
set_option linter.unusedVariables false
def cloneA_ren : Go.Shelf.Ren := ⟨fun | 41 => 86 | n => n, fun | 22 => 25 | 23 => 3 | 4 => 4 | n => n, fun | n => n⟩
set_option maxRecDepth 100000 in
theorem cloneA : Go.Proofs.SlLaysN.n41 Try.prog cloneA_ren := {
  mixed := by kernel_rfl,
  f41 := ⟨Try.f86.name, by decide, Try.func86.trans (congrArg some (by kernel_rfl))⟩,
  t4 := Try.underlying4,
  a4 := Try.isAgg4,
  z4 := Try.sizeOf4,
  v4 := Try.zeroValue4,
  t22 := Try.underlying25,
  a22 := Try.isAgg25,
  z22 := Try.sizeOf25,
  v22 := Try.zeroValue25,
  t23 := Try.underlying3,
  a23 := Try.isAgg3,
  z23 := Try.sizeOf3,
  v23 := Try.zeroValue3,
  i23 := by kernel_rfl }
def insA_ren : Go.Shelf.Ren := ⟨fun | 21 => 151 | 27 => 163 | 28 => 164 | 35 => 167 | 39 => 168 | n => n, fun | 22 => 25 | 3 => 3 | 4 => 4 | 0 => 0 | n => n, fun | n => n⟩
set_option maxRecDepth 100000 in
theorem insA : Go.Proofs.Lays2.n21 Try.prog insA_ren := {
  mixed := by kernel_rfl,
  f21 := Try.func151.trans (congrArg some (by kernel_rfl)),
  f27 := Try.func163.trans (congrArg some (by kernel_rfl)),
  f28 := Try.func164.trans (congrArg some (by kernel_rfl)),
  f35 := Try.func167.trans (congrArg some (by kernel_rfl)),
  f39 := Try.func168.trans (congrArg some (by kernel_rfl)),
  t0 := Try.underlying0,
  a0 := Try.isAgg0,
  z0 := Try.sizeOf0,
  v0 := Try.zeroValue0,
  t3 := Try.underlying3,
  a3 := Try.isAgg3,
  z3 := Try.sizeOf3,
  v3 := Try.zeroValue3,
  t4 := Try.underlying4,
  a4 := Try.isAgg4,
  z4 := Try.sizeOf4,
  v4 := Try.zeroValue4,
  t22 := Try.underlying25,
  a22 := Try.isAgg25,
  z22 := Try.sizeOf25,
  v22 := Try.zeroValue25,
  i3 := by kernel_rfl }
end Go.Proofs.Ytkeadpichlgagaa.Ke
