/- OrderFences: for every fence and every list of orders the law answers true, and both arguments read as they did. No condition. -/
import Derived.Test.YtcdlccnpbhjgkaaRows
import Derived.Test.YtcdlccnpbhjgkaaOfC
import Derived.Test.YtcdlccnpbhjgkaaOp
import Derived.WalkKit
import Derived.ProofKit
import Derived.OpenShut
import Derived.ShutString
import Derived.ChangeOld
import Derived.Below
import Derived.SizedLaws
import Derived.Lib.SmallJoins
namespace Go.Proofs.Ytcdlccnpbhjgkaa.OfD
open Go.ChangeShapes Go.WideShapes Go.ChangeAt Go.RowKit Go.Joins
open Go.Proofs.YtcdlccnpbhjgkaaW.PrintWords Go.Proofs.Ytcdlccnpbhjgkaa.Op Go.Proofs.Ytcdlccnpbhjgkaa.POrderFences
set_option linter.unusedVariables false
theorem own : ownKnob Try.prog.godebug = none := by kernel_rfl
theorem laidOut : laidOutB Try.prog = true := by kernel_rfl
theorem cells78 : Try.prog.cellsOf 78 = 2 := by kernel_rfl
theorem opens82 : Opens Try.prog 82 k82 (fun _ => True) :=
  (opens_struct (fun x : S82 => (x.f0, x.f1, x.f2, x.f3)) (fun t => ⟨t.1, t.2.1, t.2.2.1, t.2.2.2⟩) (fun _ => rfl) Try.underlying82 (by kernel_rfl)
    (fields_cons (opens_int Try.underlying3) rfl (by kernel_rfl) (fields_cons (opens_int Try.underlying3) rfl (by kernel_rfl) (fields_cons (opens_int Try.underlying3) rfl (by kernel_rfl) (fields_one (opens_int Try.underlying3) rfl (by kernel_rfl)))))).imp (fun _ _ => trivial)
theorem opens79 : Opens Try.prog 79 (Kd.slice 82 k82) (fun xs => xs.length ≤ maxLen ∧ ∀ x ∈ xs, True) := opens_slice Try.underlying79 (by kernel_rfl) opens82
set_option maxRecDepth 100000 in
theorem lifted (os : Os) (started : os.Started) (H : Type) (enc : TypeId × Value → H) :
    ReturnsInHanded {} Try.checked os 11 .any (Rows.orderFencesSpec.pre6 enc Try.prog Try.f11 Rows.orderFencesRow.domain false) (Rows.orderFencesSpec.post enc Try.prog Try.f11 false true false false) := by
  refine returnsInHanded_of_change_sized (C := Try.checked) own started (by kernel_rfl) Try.func11
    (ChangeSpec.witness6 (enc := enc) (C := Try.checked) false ⟨#[], #[.agg #[.int .i64 0, .int .i64 0], .slice none 0 0], []⟩ 8 (by kernel_rfl) (by kernel_rfl) (by kernel_rfl) (by kernel_rfl)) ?_
  intro W base args ds gs before hval0 hW hcnd hsz0 _
  have hval : ∀ (j : Nat) t v, Try.f11.params[j]? = some t → args[j]? = some v → Value.okWide Try.prog W .any base t v := hval0
  have hW' := hW
  obtain ⟨p, q, hA0, hV, rfl, hfz, hnd⟩ := hW
  have hA : DataW.TrodAll enc Try.prog W 0 (fun _ => true) true Try.f11.params.toList args.toList ds p := hA0
  rw [Try.params11] at hA hval
  obtain ⟨v0, vs0, d0, ds0, p0, q0, hargs, rfl, rfl, h0, r0⟩ := trodAll_cons hA
  obtain ⟨v1, vs1, d1, ds1, p1, q1, rfl, rfl, rfl, h1, r1⟩ := trodAll_cons r0
  obtain ⟨rfl, rfl, rfl⟩ := trodAll_nil r1
  obtain rfl : args = #[v0, v1] := by cases args; simp_all
  obtain ⟨rfl, rfl⟩ := trodVars_none hV
  have k0 := h0
  have lt0 : ∀ x ∈ p0, x.block < W.heap.size := by obtain ⟨m, hm⟩ := k0; exact DataW.trod_lt m _ _ _ hm
  have k1 := h1
  have lt1 : ∀ x ∈ p1, x.block < W.heap.size := by obtain ⟨m, hm⟩ := k1; exact DataW.trod_lt m _ _ _ hm
  obtain ⟨c0, c1, y0, y1, m, rfl, rfl, rfl, hy0, hy1⟩ := open_agg2 Try.underlying78 (by kernel_rfl) cells78 (hval 0 78 v0 rfl rfl) h0
  obtain ⟨a, e0, _, wa⟩ := DataW.trod_int Try.underlying3 hy0
  obtain ⟨b, e1, _, wb⟩ := DataW.trod_int Try.underlying3 hy1
  obtain rfl : c0 = .int .i64 a := by simpa using e0
  obtain rfl : c1 = .int .i64 b := by simpa using e1
  obtain ⟨os', ⟨A1, cap1, hv1, hcap, hC⟩, hl, _⟩ := opens79.trod h1
  obtain ⟨a1, len1, cp1, rfl⟩ := okWide_slice Try.underlying79 (hval 1 79 v1 rfl rfl)
  simp [Value.cells] at hv1
  obtain ⟨rfl, rfl, rfl⟩ := hv1
  clear hA0 hval0 hsz0
  refine (OfA.law_calls a b a1 cp1 os' W hC hcap).mono fun e W' ⟨he, bel⟩ => ?_
  subst he
  exact ⟨_, rfl, _, _, _, [], _, [], hW', trodAll_mk1 (shut_bool Try.underlying4 _), (trodAll_cons_mk (Below.trod laidOut (by kernel_rfl) (of_decide_eq_true (by kernel_rfl)) k0 bel lt0) (trodAll_cons_mk (Below.trod laidOut (by kernel_rfl) (of_decide_eq_true (by kernel_rfl)) k1 bel lt1) trodAll_mk0)), rfl, bel.frame _, fun h => by cases h⟩
theorem over : Rows.orderFencesRow.holds Try.pinned (OpenSpec.ofChange Rows.orderFencesSpec) :=
  OpenClaim.holds_of_wide 11 Try.f11 rfl rfl rfl rfl rfl rfl rfl ⟨rfl, rfl, rfl, rfl, rfl⟩ rfl rfl rfl rfl rfl (by kernel_rfl) Try.func11 (by kernel_rfl)
    (of_decide_eq_true (by kernel_rfl)) (by unfold Func.isWrapper; first | (rw [if_pos (by decide +kernel)]; kernel_rfl) | (rw [if_neg (by decide +kernel)]; exact ⟨rfl, rfl⟩))
    (fun os started H enc _ => lifted os started H enc)
end Go.Proofs.Ytcdlccnpbhjgkaa.OfD
namespace Go.Proofs.Ytcdlccnpbhjgkaa
/-- The row, under a short name, for the claim. -/
theorem orderFences_holds : Rows.OrderFencesSaid := OfD.over
#print axioms orderFences_holds
end Go.Proofs.Ytcdlccnpbhjgkaa
