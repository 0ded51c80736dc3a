/- Kept of the text Ob0: what is reached (wip/tools/prune.py). -/
import Derived.Shelf.Strconv.Itoa0
import Derived.Test.YtcdlccnpbhjgkaaVPOrderBytesx0
namespace Go.Proofs.Ytcdlccnpbhjgkaa.POrderBytes
open Go.RowKit Go.Proofs.YtcdlccnpbhjgkaaW.PrintWords Go.Proofs.YtcdlccnpbhjgkaaW.PrintLast Go.Proofs.YtcdlccnpbhjgkaaW.PrintMore
set_option linter.unusedVariables false
def len_ren : Go.Shelf.Ren := ⟨fun | 129 => 103 | n => n, fun | 46 => 169 | 53 => 26 | n => n, fun | n => n⟩
set_option maxRecDepth 100000 in
theorem lenL : Go.Proofs.Lays.n129 Try.prog len_ren := {
  mixed := by kernel_rfl,
  f129 := Try.func103.trans (congrArg some (by kernel_rfl)),
  t3 := Try.underlying3,
  a3 := Try.isAgg3,
  z3 := Try.sizeOf3,
  v3 := Try.zeroValue3,
  t4 := Try.underlying4,
  a4 := Try.isAgg4,
  z4 := Try.sizeOf4,
  v4 := Try.zeroValue4,
  t5 := Try.underlying5,
  a5 := Try.isAgg5,
  z5 := Try.sizeOf5,
  v5 := Try.zeroValue5,
  t9 := Try.underlying9,
  a9 := Try.isAgg9,
  z9 := Try.sizeOf9,
  v9 := Try.zeroValue9,
  t46 := Try.underlying169,
  a46 := Try.isAgg169,
  z46 := Try.sizeOf169,
  v46 := Try.zeroValue169,
  t53 := Try.underlying26,
  a53 := Try.isAgg26,
  z53 := Try.sizeOf26,
  v53 := Try.zeroValue26 }
def bits_Len64.f (_ : Nat) (a0 : Int) : Option (Int) := if 0 ≤ a0 ∧ a0 ≤ 18446744073709551615 then some (Lib.bitLen a0.toNat) else none
theorem bits_Len64.mono : ∀ a0 k, LeO (bits_Len64.f k a0) (bits_Len64.f (k + 1) a0) := fun _ _ => LeO.refl _
theorem bits_Len64.calls (k : Nat) (a0 : Int) (r : Int) (w : World) (h : bits_Len64.f k a0 = some r) :
    Calls Try.prog 103 #[.int .u64 a0] w fun e w' => e = .returned (.int .i64 r) ∧ Drawn0 w w' := by
  unfold bits_Len64.f at h
  split at h
  · next hb =>
    cases h
    refine Calls.mono (Go.Proofs.Any.bits_Len64 lenL a0 w hb.1 hb.2) ?_
    rintro e w' ⟨rfl, rfl⟩
    exact ⟨rfl, ⟨0, rfl⟩⟩
  · cases h
end Go.Proofs.Ytcdlccnpbhjgkaa.POrderBytes
