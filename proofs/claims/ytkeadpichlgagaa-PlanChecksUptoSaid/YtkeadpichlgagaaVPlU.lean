/- PlanChecks, where what it reads is of bulk at most 1048576: the law answers true, and the arguments read as they did. No other condition. -/
import Derived.Test.YtkeadpichlgagaaRows
import Derived.Test.YtkeadpichlgagaaVPlR
import Derived.Test.YtkeadpichlgagaaVPm6
import Derived.WalkKit
import Derived.ProofKit
import Derived.OpenShut
import Derived.ShutString
import Derived.ChangeOld
import Derived.Below
import Derived.JoinedCond
import Derived.Deep.CondSized
import Derived.SizedLaws
import Derived.Lib.SmallJoins
namespace Go.Proofs.Ytkeadpichlgagaa.PuRow
open Go.ChangeShapes Go.WideShapes Go.ChangeAt Go.RowKit Go.Joins
open Go.Proofs.YtkeadpichlgagaaW.PrintWords Go.Proofs.Ytkeadpichlgagaa.Op Go.Proofs.Ytkeadpichlgagaa.Pla Go.Proofs.Ytkeadpichlgagaa.Pl
set_option linter.unusedVariables false
theorem own : ownKnob Try.prog.godebug = none := by kernel_rfl
theorem laidOut : laidOutB Try.prog = true := by kernel_rfl
theorem opens25b : OpensB Try.prog 25 (Kd.slice 3 (Kd.int .i64)) (fun xs => (xs.map fun _ => 1).sum + 1) := opens_slice_b Try.underlying25 (by kernel_rfl) (OpensB.of (opens_int Try.underlying3))
theorem opens51b : OpensB Try.prog 51 Pl.k51 (fun x => ((x.f0.map fun _ => 1).sum + 1) + (((x.f1.map fun _ => 1).sum + 1) + 1) + 1) :=
  opens_struct_b (fun x : Pl.S51 => (x.f0, x.f1, x.f2)) (fun t => ⟨t.1, t.2.1, t.2.2⟩) (fun _ => rfl) Try.underlying51 (by kernel_rfl)
    (fieldsB_cons opens25b rfl (by kernel_rfl) (fieldsB_cons opens25b rfl (by kernel_rfl) (fieldsB_one (OpensB.of (opens_int Try.underlying3)) rfl (by kernel_rfl))))
theorem opens41b : OpensB Try.prog 41 (Kd.slice 51 Pl.k51) (fun xs => (xs.map fun x => ((x.f0.map fun _ => 1).sum + 1) + (((x.f1.map fun _ => 1).sum + 1) + 1) + 1).sum + 1) := opens_slice_b Try.underlying41 (by kernel_rfl) opens51b
theorem opens43b : OpensB Try.prog 43 Pl.k43 (fun x => 1 + (1 + ((x.f2.map fun x => ((x.f0.map fun _ => 1).sum + 1) + (((x.f1.map fun _ => 1).sum + 1) + 1) + 1).sum + 1)) + 1) :=
  opens_struct_b (fun x : Pl.S43 => (x.f0, x.f1, x.f2)) (fun t => ⟨t.1, t.2.1, t.2.2⟩) (fun _ => rfl) Try.underlying43 (by kernel_rfl)
    (fieldsB_cons (OpensB.of (opens_int Try.underlying3)) rfl (by kernel_rfl) (fieldsB_cons (OpensB.of (opens_int Try.underlying3)) rfl (by kernel_rfl) (fieldsB_one opens41b rfl (by kernel_rfl))))
theorem sum_one (l : List Int) : (l.map fun _ => 1).sum = l.length := by induction l with
  | nil => rfl
  | cons x l ih => rw [List.map_cons, List.sum_cons, ih, List.length_cons]; omega
theorem size_le : ∀ ws : List Pl.S51, sizeN ws ≤ (ws.map fun x => ((x.f0.map fun _ => 1).sum + 1) + (((x.f1.map fun _ => 1).sum + 1) + 1) + 1).sum
  | [] => by simp [sizeN]
  | x :: l => by
    have := size_le l
    rw [sizeN_cons, List.map_cons, List.sum_cons, sum_one, sum_one]
    omega
set_option maxRecDepth 100000 in
theorem lifted (os : Os) (started : os.Started) (H : Type) (enc : TypeId × Value → H) (F : Stop.Interp) :
    ReturnsInHanded {} Try.checked os 7 .any ((Rows.OpenSpec.upto Rows.planChecksSpec).pre6 enc Try.prog Try.f7 Rows.planChecksUptoRow.domain false) (((Rows.OpenSpec.upto Rows.planChecksSpec).at F).post enc Try.prog Try.f7 false true false false) := by
  refine returnsInHanded_of_cond (C := Try.checked) (s := Rows.OpenSpec.upto Rows.planChecksSpec) (k := Rows.uptoSmall) rfl own started (by kernel_rfl) Try.func7
    (OpenSpec.witness (enc := enc) (C := Try.checked) (s := Rows.OpenSpec.upto Rows.planChecksSpec) (k := Rows.uptoSmall) rfl false ⟨#[], #[.agg #[.int .i64 0, .int .i64 0, .slice none 0 0], .agg #[.int .i64 0, .int .i64 0, .slice none 0 0], .int .i64 0], []⟩ 8 (by kernel_rfl) (by kernel_rfl) (by kernel_rfl)
      (x := ([.agg [.lit (.int .i64 0), .lit (.int .i64 0), .nil], .agg [.lit (.int .i64 0), .lit (.int .i64 0), .nil], .lit (.int .i64 0)], [], [])) (by kernel_rfl) rfl (by kernel_rfl)) ?_
  intro W base args ds gs before hval0 hW _ hk _
  have hval : ∀ (j : Nat) t v, Try.f7.params[j]? = some t → args[j]? = some v → Value.okWide Try.prog W .any base t v := hval0
  have hW' := hW
  obtain ⟨p, q, hA0, hV, rfl, hfz, hnd⟩ := hW
  have hA : DataW.TrodAll enc Try.prog W 0 (fun _ => true) true Try.f7.params.toList args.toList ds p := hA0
  rw [Try.params7] at hA hval
  obtain ⟨v0, vs0, d0, ds0, p0, q0, hargs, rfl, rfl, h0, r0⟩ := trodAll_cons hA
  obtain ⟨v1, vs1, d1, ds1, p1, q1, rfl, rfl, rfl, h1, r1⟩ := trodAll_cons r0
  obtain ⟨v2, vs2, d2, ds2, p2, q2, rfl, rfl, rfl, h2, r2⟩ := trodAll_cons r1
  obtain ⟨rfl, rfl, rfl⟩ := trodAll_nil r2
  obtain rfl : args = #[v0, v1, v2] := by cases args; simp_all
  obtain ⟨rfl, rfl⟩ := trodVars_none hV
  have hbulk0 : Rows.uptoBulkAll _ ≤ 1048576 := of_decide_eq_true hk
  simp only [List.append_nil, Rows.uptoBulkAll] at hbulk0
  have k0 := h0
  have lt0 : ∀ x ∈ p0, x.block < W.heap.size := by obtain ⟨m, hm⟩ := k0; exact DataW.trod_lt m _ _ _ hm
  obtain ⟨cs0, rfl, hszc0⟩ : ∃ cs, v0 = .agg cs ∧ cs.size = Try.prog.cellsOf 43 := by
    have h := hval 0 43 v0 rfl rfl
    unfold Value.okWide at h
    rw [Try.underlying43] at h
    obtain ⟨cs, h1, h2, _⟩ := h
    exact ⟨cs, h1, h2⟩
  obtain ⟨xs0, hK0, hb0⟩ := (opens43b).trod h0
  obtain ⟨A0, c0, hcs0, l0, g0⟩ := Pl.k43_open hK0
  obtain rfl : cs0 = #[.int .i64 xs0.f0, .int .i64 xs0.f1, .slice A0 xs0.f2.length c0] := by
    have h : cs0.toList = [.int .i64 xs0.f0, .int .i64 xs0.f1, .slice A0 xs0.f2.length c0] := hcs0
    exact Array.ext' (by simpa using h)
  have k1 := h1
  have lt1 : ∀ x ∈ p1, x.block < W.heap.size := by obtain ⟨m, hm⟩ := k1; exact DataW.trod_lt m _ _ _ hm
  obtain ⟨cs1, rfl, hszc1⟩ : ∃ cs, v1 = .agg cs ∧ cs.size = Try.prog.cellsOf 43 := by
    have h := hval 1 43 v1 rfl rfl
    unfold Value.okWide at h
    rw [Try.underlying43] at h
    obtain ⟨cs, h1, h2, _⟩ := h
    exact ⟨cs, h1, h2⟩
  obtain ⟨xs1, hK1, hb1⟩ := (opens43b).trod h1
  obtain ⟨A1, c1, hcs1, l1, g1⟩ := Pl.k43_open hK1
  obtain rfl : cs1 = #[.int .i64 xs1.f0, .int .i64 xs1.f1, .slice A1 xs1.f2.length c1] := by
    have h : cs1.toList = [.int .i64 xs1.f0, .int .i64 xs1.f1, .slice A1 xs1.f2.length c1] := hcs1
    exact Array.ext' (by simpa using h)
  obtain ⟨a2, rfl, rfl, rfl, w2⟩ := open_int Try.underlying3 (hval 2 3 v2 rfl rfl) h2
  clear hA0 hval0
  refine (checks_law A0 c0 xs0.f0 xs0.f1 xs0.f2 A1 c1 xs1.f0 xs1.f1 xs1.f2 a2 W g0 l0 g1 l1 (by have h1 := size_le xs0.f2; have h2 := size_le xs1.f2; omega)).mono fun e W' ⟨he, bel⟩ => ?_
  subst he
  exact ⟨_, rfl, _, _, _, [], _, [], hW', trodAll_mk1 (shut_bool Try.underlying4 _), (trodAll_cons_mk (Below.trod laidOut (by kernel_rfl) (of_decide_eq_true (by kernel_rfl)) k0 bel lt0) (trodAll_cons_mk (Below.trod laidOut (by kernel_rfl) (of_decide_eq_true (by kernel_rfl)) k1 bel lt1) (trodAll_cons_mk (shut_int Try.underlying3 w2) trodAll_mk0))), rfl, bel.frame _, fun h => by cases h⟩
theorem over : Rows.planChecksUptoRow.holds Try.pinned (Rows.OpenSpec.upto Rows.planChecksSpec) :=
  OpenClaim.holds_of_cond 7 Try.f7 rfl rfl rfl rfl rfl rfl rfl ⟨rfl, rfl, rfl, rfl, rfl⟩ rfl rfl rfl rfl rfl (by kernel_rfl) Try.func7 (by kernel_rfl)
    (of_decide_eq_true (by kernel_rfl)) (by unfold Func.isWrapper; first | (rw [if_pos (by decide +kernel)]; kernel_rfl) | (rw [if_neg (by decide +kernel)]; exact ⟨rfl, rfl⟩))
    (fun os started H enc _ F => lifted os started H enc F)
end Go.Proofs.Ytkeadpichlgagaa.PuRow
namespace Go.Proofs.Ytkeadpichlgagaa
theorem planChecks_holds : Rows.PlanChecksUptoSaid := PuRow.over
#print axioms planChecks_holds
end Go.Proofs.Ytkeadpichlgagaa
