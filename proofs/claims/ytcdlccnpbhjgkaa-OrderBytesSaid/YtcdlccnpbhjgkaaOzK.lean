/- OrderBytes: for every argument the law answers true, and the arguments read as they did. No condition. -/
import Derived.Test.YtcdlccnpbhjgkaaRows
import Derived.Test.YtcdlccnpbhjgkaaOzJ
import Derived.Test.YtcdlccnpbhjgkaaOp
import Derived.WalkKit
import Derived.ProofKit
import Derived.OpenShut
import Derived.ShutString
import Derived.ChangeOld
import Derived.Below
import Derived.SizedLaws
import Derived.Lib.SmallJoins
namespace Go.Proofs.Ytcdlccnpbhjgkaa.OzK
open Go.ChangeShapes Go.WideShapes Go.ChangeAt Go.RowKit Go.Joins
open Go.Proofs.YtcdlccnpbhjgkaaW.PrintWords Go.Proofs.Ytcdlccnpbhjgkaa.Op Go.Proofs.Ytcdlccnpbhjgkaa.POrderBytes
set_option linter.unusedVariables false
theorem own : ownKnob Try.prog.godebug = none := by kernel_rfl
theorem laidOut : laidOutB Try.prog = true := by kernel_rfl
theorem i64_of {n : Int} (h : (Lit.int .i64 n).wf = true) : Oo.I64 n := by
  simp [Lit.wf, IntKind.min, IntKind.max, IntKind.signed, IntKind.bits] at h
  unfold Oo.I64
  omega
theorem opens82 : Opens Try.prog 82 k82 Oo.Wf82 :=
  (opens_struct (fun x : S82 => (x.f0, x.f1, x.f2, x.f3)) (fun t => ⟨t.1, t.2.1, t.2.2.1, t.2.2.2⟩) (fun _ => rfl) Try.underlying82 (by kernel_rfl)
    (fields_cons (opens_int Try.underlying3) rfl (by kernel_rfl) (fields_cons (opens_int Try.underlying3) rfl (by kernel_rfl) (fields_cons (opens_int Try.underlying3) rfl (by kernel_rfl) (fields_one (opens_int Try.underlying3) rfl (by kernel_rfl)))))).imp (fun _ h => ⟨i64_of h.1, i64_of h.2.1, i64_of h.2.2.1, i64_of h.2.2.2⟩)
theorem opens79 : Opens Try.prog 79 (Kd.slice 82 k82) (fun xs => xs.length ≤ maxLen ∧ ∀ x ∈ xs, Oo.Wf82 x) := opens_slice Try.underlying79 (by kernel_rfl) opens82
theorem opens99 : Opens Try.prog 99 k99 Oo.Wf99 :=
  (opens_struct (fun x : S99 => (x.f0, x.f1, x.f2, x.f3, x.f4, x.f5)) (fun t => ⟨t.1, t.2.1, t.2.2.1, t.2.2.2.1, t.2.2.2.2.1, t.2.2.2.2.2⟩) (fun _ => rfl) Try.underlying99 (by kernel_rfl)
    (fields_cons (opens_int Try.underlying3) rfl (by kernel_rfl) (fields_cons (opens_int Try.underlying3) rfl (by kernel_rfl) (fields_cons (opens_int Try.underlying3) rfl (by kernel_rfl) (fields_cons (opens_int Try.underlying3) rfl (by kernel_rfl) (fields_cons (opens_int Try.underlying3) rfl (by kernel_rfl) (fields_one (opens_bool Try.underlying4) rfl (by kernel_rfl)))))))).imp (fun _ h => ⟨i64_of h.1, i64_of h.2.1, i64_of h.2.2.1, i64_of h.2.2.2.1, i64_of h.2.2.2.2.1⟩)
theorem opens86 : Opens Try.prog 86 (Kd.slice 99 k99) (fun xs => xs.length ≤ maxLen ∧ ∀ x ∈ xs, Oo.Wf99 x) := opens_slice Try.underlying86 (by kernel_rfl) opens99
set_option maxRecDepth 100000 in
theorem lifted (os : Os) (started : os.Started) (H : Type) (enc : TypeId × Value → H) :
    ReturnsInHanded {} Try.checked os 12 .any (Rows.orderBytesSpec.pre6 enc Try.prog Try.f12 Rows.orderBytesRow.domain false) (Rows.orderBytesSpec.post enc Try.prog Try.f12 false true false false) := by
  refine returnsInHanded_of_change_sized (C := Try.checked) own started (by kernel_rfl) Try.func12
    (ChangeSpec.witness6 (enc := enc) (C := Try.checked) false ⟨#[], #[.slice none 0 0, .slice none 0 0], []⟩ 8 (by kernel_rfl) (by kernel_rfl) (by kernel_rfl) (by kernel_rfl)) ?_
  intro W base args ds gs before hval0 hW hcnd hsz0 _
  have hval : ∀ (j : Nat) t v, Try.f12.params[j]? = some t → args[j]? = some v → Value.okWide Try.prog W .any base t v := hval0
  have hW' := hW
  obtain ⟨p, q, hA0, hV, rfl, hfz, hnd⟩ := hW
  have hA : DataW.TrodAll enc Try.prog W 0 (fun _ => true) true Try.f12.params.toList args.toList ds p := hA0
  rw [Try.params12] at hA hval
  obtain ⟨v0, vs0, d0, ds0, p0, q0, hargs, rfl, rfl, h0, r0⟩ := trodAll_cons hA
  obtain ⟨v1, vs1, d1, ds1, p1, q1, rfl, rfl, rfl, h1, r1⟩ := trodAll_cons r0
  obtain ⟨rfl, rfl, rfl⟩ := trodAll_nil r1
  obtain rfl : args = #[v0, v1] := by cases args; simp_all
  obtain ⟨rfl, rfl⟩ := trodVars_none hV
  have k0 := h0
  have lt0 : ∀ x ∈ p0, x.block < W.heap.size := by obtain ⟨m, hm⟩ := k0; exact DataW.trod_lt m _ _ _ hm
  obtain ⟨xs0, ⟨A0, cap0, hv0, hcap0, hC0⟩, hl0, hok0⟩ := (opens79).trod h0
  obtain ⟨a0, len0, cp0, rfl⟩ := okWide_slice Try.underlying79 (hval 0 79 v0 rfl rfl)
  simp [Value.cells] at hv0
  obtain ⟨rfl, rfl, rfl⟩ := hv0
  have k1 := h1
  have lt1 : ∀ x ∈ p1, x.block < W.heap.size := by obtain ⟨m, hm⟩ := k1; exact DataW.trod_lt m _ _ _ hm
  obtain ⟨xs1, ⟨A1, cap1, hv1, hcap1, hC1⟩, hl1, hok1⟩ := (opens86).trod h1
  obtain ⟨a1, len1, cp1, rfl⟩ := okWide_slice Try.underlying86 (hval 1 86 v1 rfl rfl)
  simp [Value.cells] at hv1
  obtain ⟨rfl, rfl, rfl⟩ := hv1
  clear hA0 hval0 hsz0
  refine (Oo.obytes_calls a0 cp0 xs0 a1 cp1 xs1 W hC0 hcap0 hok0 hC1 hcap1 hok1 ).mono fun e W' ⟨he, bel⟩ => ?_
  subst he
  exact ⟨_, rfl, _, _, _, [], _, [], hW', trodAll_mk1 (shut_bool Try.underlying4 _), (trodAll_cons_mk (Below.trod laidOut (by kernel_rfl) (of_decide_eq_true (by kernel_rfl)) k0 bel lt0) (trodAll_cons_mk (Below.trod laidOut (by kernel_rfl) (of_decide_eq_true (by kernel_rfl)) k1 bel lt1) trodAll_mk0)), rfl, bel.frame _, fun h => by cases h⟩
theorem over : Rows.orderBytesRow.holds Try.pinned (OpenSpec.ofChange Rows.orderBytesSpec) :=
  OpenClaim.holds_of_wide 12 Try.f12 rfl rfl rfl rfl rfl rfl rfl ⟨rfl, rfl, rfl, rfl, rfl⟩ rfl rfl rfl rfl rfl (by kernel_rfl) Try.func12 (by kernel_rfl)
    (of_decide_eq_true (by kernel_rfl)) (by unfold Func.isWrapper; first | (rw [if_pos (by decide +kernel)]; kernel_rfl) | (rw [if_neg (by decide +kernel)]; exact ⟨rfl, rfl⟩))
    (fun os started H enc _ => lifted os started H enc)
end Go.Proofs.Ytcdlccnpbhjgkaa.OzK
namespace Go.Proofs.Ytcdlccnpbhjgkaa
/-- The row, under a short name, for the claim. -/
theorem orderBytes_holds : Rows.OrderBytesSaid := OzK.over
#print axioms orderBytes_holds
end Go.Proofs.Ytcdlccnpbhjgkaa
