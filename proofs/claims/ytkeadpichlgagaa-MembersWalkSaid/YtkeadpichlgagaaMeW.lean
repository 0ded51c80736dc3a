/- MembersWalk: for every argument the law answers true, and the arguments read as they did. No condition. -/
import Derived.Test.YtkeadpichlgagaaRows
import Derived.Test.YtkeadpichlgagaaMeV
import Derived.Test.YtkeadpichlgagaaOp
import Derived.WalkKit
import Derived.ProofKit
import Derived.OpenShut
import Derived.ShutString
import Derived.ChangeOld
import Derived.Below
import Derived.SizedLaws
import Derived.Lib.SmallJoins
namespace Go.Proofs.Ytkeadpichlgagaa.MwRow
open Go.ChangeShapes Go.WideShapes Go.ChangeAt Go.RowKit Go.Joins
open Go.Proofs.YtkeadpichlgagaaW.PrintWords Go.Proofs.Ytkeadpichlgagaa.Op Go.Proofs.Ytkeadpichlgagaa.Me Go.Proofs.Ytkeadpichlgagaa.PMembersNext
set_option linter.unusedVariables false
theorem own : ownKnob Try.prog.godebug = none := by kernel_rfl
theorem laidOut : laidOutB Try.prog = true := by kernel_rfl
theorem opens25 : Opens Try.prog 25 (Kd.slice 3 (Kd.int .i64)) (fun xs => xs.length ≤ maxLen ∧ ∀ x ∈ xs, (Lit.int .i64 x).wf = true) := opens_slice Try.underlying25 (by kernel_rfl) (opens_int Try.underlying3)
theorem opens67 : Opens Try.prog 67 PMembersNext.k67 (fun _ => True) :=
  (opens_struct (fun x : PMembersNext.S67 => (x.f0, x.f1)) (fun t => ⟨t.1, t.2⟩) (fun _ => rfl) Try.underlying67 (by kernel_rfl)
    (fields_cons opens25 rfl (by kernel_rfl) (fields_one opens25 rfl (by kernel_rfl)))).imp (fun _ _ => trivial)
theorem opens84 : Opens Try.prog 84 Me.k84 (fun _ => True) :=
  (opens_struct (fun x : Me.S84 => (x.f0, x.f1)) (fun t => ⟨t.1, t.2⟩) (fun _ => rfl) Try.underlying84 (by kernel_rfl)
    (fields_cons (opens_int Try.underlying3) rfl (by kernel_rfl) (fields_one (opens_int Try.underlying3) rfl (by kernel_rfl)))).imp (fun _ _ => trivial)
theorem opens77 : Opens Try.prog 77 (Kd.slice 84 Me.k84) (fun xs => xs.length ≤ maxLen ∧ ∀ x ∈ xs, True) := opens_slice Try.underlying77 (by kernel_rfl) opens84
set_option maxRecDepth 100000 in
theorem lifted (os : Os) (started : os.Started) (H : Type) (enc : TypeId × Value → H) :
    ReturnsInHanded {} Try.checked os 14 .any (Rows.membersWalkSpec.pre6 enc Try.prog Try.f14 Rows.membersWalkRow.domain false) (Rows.membersWalkSpec.post enc Try.prog Try.f14 false true false false) := by
  refine returnsInHanded_of_change_sized (C := Try.checked) own started (by kernel_rfl) Try.func14
    (ChangeSpec.witness6 (enc := enc) (C := Try.checked) false ⟨#[], #[.agg #[.slice none 0 0, .slice none 0 0], .agg #[.slice none 0 0, .slice none 0 0]], []⟩ 8 (by kernel_rfl) (by kernel_rfl) (by kernel_rfl) (by kernel_rfl)) ?_
  intro W base args ds gs before hval0 hW hcnd hsz0 _
  have hval : ∀ (j : Nat) t v, Try.f14.params[j]? = some t → args[j]? = some v → Value.okWide Try.prog W .any base t v := hval0
  have hW' := hW
  obtain ⟨p, q, hA0, hV, rfl, hfz, hnd⟩ := hW
  have hA : DataW.TrodAll enc Try.prog W 0 (fun _ => true) true Try.f14.params.toList args.toList ds p := hA0
  rw [Try.params14] at hA hval
  obtain ⟨v0, vs0, d0, ds0, p0, q0, hargs, rfl, rfl, h0, r0⟩ := trodAll_cons hA
  obtain ⟨v1, vs1, d1, ds1, p1, q1, rfl, rfl, rfl, h1, r1⟩ := trodAll_cons r0
  obtain ⟨rfl, rfl, rfl⟩ := trodAll_nil r1
  obtain rfl : args = #[v0, v1] := by cases args; simp_all
  obtain ⟨rfl, rfl⟩ := trodVars_none hV
  have k0 := h0
  have lt0 : ∀ x ∈ p0, x.block < W.heap.size := by obtain ⟨m, hm⟩ := k0; exact DataW.trod_lt m _ _ _ hm
  obtain ⟨cs0, rfl, hsz0⟩ : ∃ cs, v0 = .agg cs ∧ cs.size = Try.prog.cellsOf 67 := by
    have h := hval 0 67 v0 rfl rfl
    unfold Value.okWide at h
    rw [Try.underlying67] at h
    obtain ⟨cs, h1, h2, _⟩ := h
    exact ⟨cs, h1, h2⟩
  obtain ⟨xs0, hK0, hok0⟩ := (opens67).trod h0
  obtain ⟨A0, c0, B0, d0, hcs0, l0, g0, m0, f0⟩ := PMembersNext.k67_open hK0
  obtain rfl : cs0 = #[.slice A0 xs0.f0.length c0, .slice B0 xs0.f1.length d0] := by
    have h : cs0.toList = [.slice A0 xs0.f0.length c0, .slice B0 xs0.f1.length d0] := hcs0
    exact Array.ext' (by simpa using h)
  have k1 := h1
  have lt1 : ∀ x ∈ p1, x.block < W.heap.size := by obtain ⟨m, hm⟩ := k1; exact DataW.trod_lt m _ _ _ hm
  obtain ⟨cs1, rfl, hsz1⟩ : ∃ cs, v1 = .agg cs ∧ cs.size = Try.prog.cellsOf 67 := by
    have h := hval 1 67 v1 rfl rfl
    unfold Value.okWide at h
    rw [Try.underlying67] at h
    obtain ⟨cs, h1, h2, _⟩ := h
    exact ⟨cs, h1, h2⟩
  obtain ⟨xs1, hK1, hok1⟩ := (opens67).trod h1
  obtain ⟨A1, c1, B1, d1, hcs1, l1, g1, m1, f1⟩ := PMembersNext.k67_open hK1
  obtain rfl : cs1 = #[.slice A1 xs1.f0.length c1, .slice B1 xs1.f1.length d1] := by
    have h : cs1.toList = [.slice A1 xs1.f0.length c1, .slice B1 xs1.f1.length d1] := hcs1
    exact Array.ext' (by simpa using h)
  clear hA0 hval0 hsz0
  refine (walk_law A0 B0 c0 d0 xs0 A1 B1 c1 d1 xs1 W ⟨g0, l0, f0, m0⟩ ⟨g1, l1, f1, m1⟩).mono fun e W' ⟨he, bel⟩ => ?_
  subst he
  exact ⟨_, rfl, _, _, _, [], _, [], hW', trodAll_mk1 (shut_bool Try.underlying4 _), (trodAll_cons_mk (Below.trod laidOut (by kernel_rfl) (of_decide_eq_true (by kernel_rfl)) k0 bel lt0) (trodAll_cons_mk (Below.trod laidOut (by kernel_rfl) (of_decide_eq_true (by kernel_rfl)) k1 bel lt1) trodAll_mk0)), rfl, bel.frame _, fun h => by cases h⟩
theorem over : Rows.membersWalkRow.holds Try.pinned (OpenSpec.ofChange Rows.membersWalkSpec) :=
  OpenClaim.holds_of_wide 14 Try.f14 rfl rfl rfl rfl rfl rfl rfl ⟨rfl, rfl, rfl, rfl, rfl⟩ rfl rfl rfl rfl rfl (by kernel_rfl) Try.func14 (by kernel_rfl)
    (of_decide_eq_true (by kernel_rfl)) (by unfold Func.isWrapper; first | (rw [if_pos (by decide +kernel)]; kernel_rfl) | (rw [if_neg (by decide +kernel)]; exact ⟨rfl, rfl⟩))
    (fun os started H enc _ => lifted os started H enc)
end Go.Proofs.Ytkeadpichlgagaa.MwRow
namespace Go.Proofs.Ytkeadpichlgagaa
/-- The row, under a short name, for the claim. -/
theorem membersWalk_holds : Rows.MembersWalkSaid := MwRow.over
#print axioms membersWalk_holds
end Go.Proofs.Ytkeadpichlgagaa
