/- TimerAlarms: whatever is set, cleared and asked, the law answers true, and the arguments read as they did. No condition. -/
import Derived.Test.YtcdlccnpbhjgkaaRows
import Derived.Test.YtcdlccnpbhjgkaaTaC
import Derived.Test.YtcdlccnpbhjgkaaOp
import Derived.WalkKit
import Derived.ProofKit
import Derived.OpenShut
import Derived.ShutString
import Derived.ChangeOld
import Derived.Below
import Derived.SizedLaws
import Derived.Lib.SmallJoins
namespace Go.Proofs.Ytcdlccnpbhjgkaa.TaD
open Go.ChangeShapes Go.WideShapes Go.ChangeAt Go.RowKit Go.Joins
open Go.Proofs.YtcdlccnpbhjgkaaW.PrintWords Go.Proofs.Ytcdlccnpbhjgkaa.Op 
set_option linter.unusedVariables false
theorem own : ownKnob Try.prog.godebug = none := by kernel_rfl
theorem laidOut : laidOutB Try.prog = true := by kernel_rfl
theorem opens65 : Opens Try.prog 65 Ti.k65 (fun _ => True) :=
  (opens_struct (fun x : Ti.S65 => (x.f0, x.f1, x.f2)) (fun t => ⟨t.1, t.2.1, t.2.2⟩) (fun _ => rfl) Try.underlying65 (by kernel_rfl)
    (fields_cons (opens_int Try.underlying3) rfl (by kernel_rfl) (fields_cons (opens_int Try.underlying3) rfl (by kernel_rfl) (fields_one (opens_slice Try.underlying46 (by kernel_rfl) (opens_int Try.underlying3)) rfl (by kernel_rfl))))).imp (fun _ _ => trivial)
set_option maxRecDepth 100000 in
theorem lifted (os : Os) (started : os.Started) (H : Type) (enc : TypeId × Value → H) :
    ReturnsInHanded {} Try.checked os 9 .any (Rows.timerAlarmsSpec.pre6 enc Try.prog Try.f9 Rows.timerAlarmsRow.domain false) (Rows.timerAlarmsSpec.post enc Try.prog Try.f9 false true false false) := by
  refine returnsInHanded_of_change_sized (C := Try.checked) own started (by kernel_rfl) Try.func9
    (ChangeSpec.witness6 (enc := enc) (C := Try.checked) false ⟨#[], #[.slice none 0 0], []⟩ 8 (by kernel_rfl) (by kernel_rfl) (by kernel_rfl) (by kernel_rfl)) ?_
  intro W base args ds gs before hval0 hW hcnd hsz0 _
  have hval : ∀ (j : Nat) t v, Try.f9.params[j]? = some t → args[j]? = some v → Value.okWide Try.prog W .any base t v := hval0
  have hW' := hW
  obtain ⟨p, q, hA0, hV, rfl, hfz, hnd⟩ := hW
  have hA : DataW.TrodAll enc Try.prog W 0 (fun _ => true) true Try.f9.params.toList args.toList ds p := hA0
  rw [Try.params9] at hA hval
  obtain ⟨v0, vs0, d0, ds0, p0, q0, hargs, rfl, rfl, h0, r0⟩ := trodAll_cons hA
  obtain ⟨rfl, rfl, rfl⟩ := trodAll_nil r0
  obtain rfl : args = #[v0] := by cases args; simp_all
  obtain ⟨rfl, rfl⟩ := trodVars_none hV
  have k0 := h0
  have lt0 : ∀ x ∈ p0, x.block < W.heap.size := by obtain ⟨m, hm⟩ := k0; exact DataW.trod_lt m _ _ _ hm
  obtain ⟨xs0, ⟨A0, cap0, hv0, hcap0, hC0⟩, hl0, hok0⟩ := ((opens_slice Try.underlying62 (by kernel_rfl) opens65)).trod h0
  obtain ⟨a0, len0, cp0, rfl⟩ := okWide_slice Try.underlying62 (hval 0 62 v0 rfl rfl)
  simp [Value.cells] at hv0
  obtain ⟨rfl, rfl, rfl⟩ := hv0
  clear hA0 hval0 hsz0
  refine (Ti.alarms_law_calls a0 cp0 xs0 W hC0 hcap0 ).mono fun e W' ⟨he, bel⟩ => ?_
  subst he
  exact ⟨_, rfl, _, _, _, [], _, [], hW', trodAll_mk1 (shut_bool Try.underlying4 _), (trodAll_cons_mk (Below.trod laidOut (by kernel_rfl) (of_decide_eq_true (by kernel_rfl)) k0 bel lt0) trodAll_mk0), rfl, bel.frame _, fun h => by cases h⟩
theorem over : Rows.timerAlarmsRow.holds Try.pinned (OpenSpec.ofChange Rows.timerAlarmsSpec) :=
  OpenClaim.holds_of_wide 9 Try.f9 rfl rfl rfl rfl rfl rfl rfl ⟨rfl, rfl, rfl, rfl, rfl⟩ rfl rfl rfl rfl rfl (by kernel_rfl) Try.func9 (by kernel_rfl)
    (of_decide_eq_true (by kernel_rfl)) (by unfold Func.isWrapper; first | (rw [if_pos (by decide +kernel)]; kernel_rfl) | (rw [if_neg (by decide +kernel)]; exact ⟨rfl, rfl⟩))
    (fun os started H enc _ => lifted os started H enc)
end Go.Proofs.Ytcdlccnpbhjgkaa.TaD
namespace Go.Proofs.Ytcdlccnpbhjgkaa
/-- The row, under a short name, for the claim. -/
theorem timerAlarms_holds : Rows.TimerAlarmsSaid := TaD.over
#print axioms timerAlarms_holds
end Go.Proofs.Ytcdlccnpbhjgkaa
