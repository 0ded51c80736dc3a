/- PlanTurns: for every argument the law answers true, and the arguments read as they did. No condition. -/
import Derived.Test.YtkeadpichlgagaaRows
import Derived.Test.YtkeadpichlgagaaVPm5
import Derived.Test.YtkeadpichlgagaaVPm6
import Derived.WalkKit
import Derived.ProofKit
import Derived.OpenShut
import Derived.ShutString
import Derived.ChangeOld
import Derived.Below
import Derived.SizedLaws
import Derived.Lib.SmallJoins
namespace Go.Proofs.Ytkeadpichlgagaa.PtRow
open Go.ChangeShapes Go.WideShapes Go.ChangeAt Go.RowKit Go.Joins
open Go.Proofs.YtkeadpichlgagaaW.PrintWords Go.Proofs.Ytkeadpichlgagaa.Op Go.Proofs.Ytkeadpichlgagaa.Pla Go.Proofs.Ytkeadpichlgagaa.Pl
set_option linter.unusedVariables false
theorem own : ownKnob Try.prog.godebug = none := by kernel_rfl
theorem laidOut : laidOutB Try.prog = true := by kernel_rfl
theorem opens25w : OpensW Try.prog 25 (Kd.slice 3 (Kd.int .i64)) (fun xs => xs.length ≤ 1000000000000000) :=
  (opens_slice_w Try.underlying25 (by kernel_rfl) (OpensW.of (opens_int Try.underlying3))).imp (fun xs h => by
    have h2 := h.2.1
    rw [show Try.prog.bytesOf 3 = 8 from by kernel_rfl] at h2
    unfold reachBytes at h2
    omega)
theorem opens51w : OpensW Try.prog 51 Pl.k51 (fun x => x.f0.length ≤ 1000000000000000 ∧ x.f1.length ≤ 1000000000000000) :=
  (opens_struct_w (fun x : Pl.S51 => (x.f0, x.f1, x.f2)) (fun t => ⟨t.1, t.2.1, t.2.2⟩) (fun _ => rfl) Try.underlying51 (by kernel_rfl)
    (fieldsW_cons opens25w rfl (by kernel_rfl) (fieldsW_cons opens25w rfl (by kernel_rfl) (fieldsW_one (OpensW.of (opens_int Try.underlying3)) rfl (by kernel_rfl))))).imp (fun _ h => ⟨h.1, h.2.1⟩)
theorem opens41w : OpensW Try.prog 41 (Kd.slice 51 Pl.k51) (fun xs => xs.length ≤ 100000000000000 ∧ ∀ x ∈ xs, x.f0.length ≤ 1000000000000000 ∧ x.f1.length ≤ 1000000000000000) :=
  (opens_slice_w Try.underlying41 (by kernel_rfl) opens51w).imp (fun xs h => ⟨by
    have h2 := h.2.1
    rw [show Try.prog.bytesOf 51 = 56 from by kernel_rfl] at h2
    unfold reachBytes at h2
    omega, h.2.2⟩)
theorem opens43w : OpensW Try.prog 43 Pl.k43 (fun x => x.f2.length ≤ 100000000000000 ∧ ∀ y ∈ x.f2, y.f0.length ≤ 1000000000000000 ∧ y.f1.length ≤ 1000000000000000) :=
  (opens_struct_w (fun x : Pl.S43 => (x.f0, x.f1, x.f2)) (fun t => ⟨t.1, t.2.1, t.2.2⟩) (fun _ => rfl) Try.underlying43 (by kernel_rfl)
    (fieldsW_cons (OpensW.of (opens_int Try.underlying3)) rfl (by kernel_rfl) (fieldsW_cons (OpensW.of (opens_int Try.underlying3)) rfl (by kernel_rfl) (fieldsW_one opens41w rfl (by kernel_rfl))))).imp (fun _ h => h.2.2)
set_option maxRecDepth 100000 in
theorem lifted (os : Os) (started : os.Started) (H : Type) (enc : TypeId × Value → H) :
    ReturnsInHanded {} Try.checked os 9 .any (Rows.planTurnsSpec.pre6 enc Try.prog Try.f9 Rows.planTurnsRow.domain false) (Rows.planTurnsSpec.post enc Try.prog Try.f9 false true false false) := by
  refine returnsInHanded_of_change_sized (C := Try.checked) own started (by kernel_rfl) Try.func9
    (ChangeSpec.witness6 (enc := enc) (C := Try.checked) false ⟨#[], #[.agg #[.int .i64 0, .int .i64 0, .slice none 0 0], .int .i64 0, .int .i64 0], []⟩ 8 (by kernel_rfl) (by kernel_rfl) (by kernel_rfl) (by kernel_rfl)) ?_
  intro W base args ds gs before hval0 hW hcnd hsz0 _
  have hval : ∀ (j : Nat) t v, Try.f9.params[j]? = some t → args[j]? = some v → Value.okWide Try.prog W .any base t v := hval0
  have hW' := hW
  obtain ⟨p, q, hA0, hV, rfl, hfz, hnd⟩ := hW
  have hA : DataW.TrodAll enc Try.prog W 0 (fun _ => true) true Try.f9.params.toList args.toList ds p := hA0
  rw [Try.params9] at hA hval
  obtain ⟨v0, vs0, d0, ds0, p0, q0, hargs, rfl, rfl, h0, r0⟩ := trodAll_cons hA
  obtain ⟨v1, vs1, d1, ds1, p1, q1, rfl, rfl, rfl, h1, r1⟩ := trodAll_cons r0
  obtain ⟨v2, vs2, d2, ds2, p2, q2, rfl, rfl, rfl, h2, r2⟩ := trodAll_cons r1
  obtain ⟨rfl, rfl, rfl⟩ := trodAll_nil r2
  obtain rfl : args = #[v0, v1, v2] := by cases args; simp_all
  obtain ⟨rfl, rfl⟩ := trodVars_none hV
  have k0 := h0
  have lt0 : ∀ x ∈ p0, x.block < W.heap.size := by obtain ⟨m, hm⟩ := k0; exact DataW.trod_lt m _ _ _ hm
  obtain ⟨cs0, rfl, hszc0⟩ : ∃ cs, v0 = .agg cs ∧ cs.size = Try.prog.cellsOf 43 := by
    have h := hval 0 43 v0 rfl rfl
    unfold Value.okWide at h
    rw [Try.underlying43] at h
    obtain ⟨cs, h1, h2, _⟩ := h
    exact ⟨cs, h1, h2⟩
  obtain ⟨xs0, hK0, hok0⟩ := OpensW.trod (opens43w) h0 hsz0 (j := 0) (by kernel_rfl) rfl
  obtain ⟨A0, c0, hcs0, l0, g0⟩ := Pl.k43_open hK0
  obtain rfl : cs0 = #[.int .i64 xs0.f0, .int .i64 xs0.f1, .slice A0 xs0.f2.length c0] := by
    have h : cs0.toList = [.int .i64 xs0.f0, .int .i64 xs0.f1, .slice A0 xs0.f2.length c0] := hcs0
    exact Array.ext' (by simpa using h)
  obtain ⟨a1, rfl, rfl, rfl, w1⟩ := open_int Try.underlying3 (hval 1 3 v1 rfl rfl) h1
  obtain ⟨a2, rfl, rfl, rfl, w2⟩ := open_int Try.underlying3 (hval 2 3 v2 rfl rfl) h2
  clear hA0 hval0 hsz0
  refine (turns_law A0 c0 xs0.f0 xs0.f1 xs0.f2 a1 a2 W g0 l0 hok0.1 hok0.2).mono fun e W' ⟨he, bel⟩ => ?_
  subst he
  exact ⟨_, rfl, _, _, _, [], _, [], hW', trodAll_mk1 (shut_bool Try.underlying4 _), (trodAll_cons_mk (Below.trod laidOut (by kernel_rfl) (of_decide_eq_true (by kernel_rfl)) k0 bel lt0) (trodAll_cons_mk (shut_int Try.underlying3 w1) (trodAll_cons_mk (shut_int Try.underlying3 w2) trodAll_mk0))), rfl, bel.frame _, fun h => by cases h⟩
theorem over : Rows.planTurnsRow.holds Try.pinned (OpenSpec.ofChange Rows.planTurnsSpec) :=
  OpenClaim.holds_of_wide 9 Try.f9 rfl rfl rfl rfl rfl rfl rfl ⟨rfl, rfl, rfl, rfl, rfl⟩ rfl rfl rfl rfl rfl (by kernel_rfl) Try.func9 (by kernel_rfl)
    (of_decide_eq_true (by kernel_rfl)) (by unfold Func.isWrapper; first | (rw [if_pos (by decide +kernel)]; kernel_rfl) | (rw [if_neg (by decide +kernel)]; exact ⟨rfl, rfl⟩))
    (fun os started H enc _ => lifted os started H enc)
end Go.Proofs.Ytkeadpichlgagaa.PtRow
namespace Go.Proofs.Ytkeadpichlgagaa
theorem planTurns_holds : Rows.PlanTurnsSaid := PtRow.over
#print axioms planTurns_holds
end Go.Proofs.Ytkeadpichlgagaa
