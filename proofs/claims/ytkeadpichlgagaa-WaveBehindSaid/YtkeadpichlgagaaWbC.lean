/- WaveBehind: for every argument the law answers true, and the arguments read as they did. No condition. -/
import Derived.Test.YtkeadpichlgagaaRows
import Derived.Test.YtkeadpichlgagaaWbB
import Derived.Test.YtkeadpichlgagaaOw
import Derived.Test.YtkeadpichlgagaaOp
import Derived.WalkKit
import Derived.ProofKit
import Derived.OpenShut
import Derived.ShutString
import Derived.ChangeOld
import Derived.Below
import Derived.SizedLaws
import Derived.Lib.SmallJoins
namespace Go.Proofs.Ytkeadpichlgagaa.WbC
open Go.ChangeShapes Go.WideShapes Go.ChangeAt Go.RowKit Go.Joins
open Go.Proofs.YtkeadpichlgagaaW.PrintWords Go.Proofs.Ytkeadpichlgagaa.Op Go.Proofs.Ytkeadpichlgagaa.Wv
set_option linter.unusedVariables false
theorem own : ownKnob Try.prog.godebug = none := by kernel_rfl
theorem laidOut : laidOutB Try.prog = true := by kernel_rfl
theorem opens25 : OpensW Try.prog 25 (Kd.slice 3 (Kd.int .i64)) (fun xs => xs.length ≤ 1000000000000000) :=
  (opens_slice_w Try.underlying25 (by kernel_rfl) (OpensW.of (opens_int Try.underlying3))).imp (fun xs h => by
    have h2 := h.2.1
    rw [show Try.prog.bytesOf 3 = 8 from by kernel_rfl] at h2
    unfold reachBytes at h2
    omega)
theorem opens22 : OpensW Try.prog 22 (Kd.slice 25 (Kd.slice 3 (Kd.int .i64))) (fun xs => xs.length ≤ maxLen ∧ xs.length ≤ 100000000000000 ∧ ∀ x ∈ xs, x.length ≤ 1000000000000000) :=
  (opens_slice_w Try.underlying22 (by kernel_rfl) opens25).imp (fun xs h => ⟨h.1, by
    have h2 := h.2.1
    rw [show Try.prog.bytesOf 25 = 24 from by kernel_rfl] at h2
    unfold reachBytes at h2
    omega, h.2.2⟩)
theorem opens34 : Opens Try.prog 34 (Kd.slice 4 Kd.bool) (fun xs => xs.length ≤ maxLen ∧ ∀ x ∈ xs, True) := opens_slice Try.underlying34 (by kernel_rfl) (opens_bool Try.underlying4)
theorem rows_of {G : Wv.Gr} (h : ∀ x ∈ G, x.length ≤ 1000000000000000) : ∀ y : Nat, y < G.length → (Wv.row G (y : Int)).length ≤ 1000000000000000 := fun y hy => by
  rw [Wv.row_at G hy]; exact h _ (List.getElem_mem hy)
set_option maxRecDepth 100000 in
theorem lifted (os : Os) (started : os.Started) (H : Type) (enc : TypeId × Value → H) :
    ReturnsInHanded {} Try.checked os 6 .any (Rows.waveBehindSpec.pre6 enc Try.prog Try.f6 Rows.waveBehindRow.domain false) (Rows.waveBehindSpec.post enc Try.prog Try.f6 false true false false) := by
  refine returnsInHanded_of_change_sized (C := Try.checked) own started (by kernel_rfl) Try.func6
    (ChangeSpec.witness6 (enc := enc) (C := Try.checked) false ⟨#[], #[.slice none 0 0, .int .i64 0], []⟩ 8 (by kernel_rfl) (by kernel_rfl) (by kernel_rfl) (by kernel_rfl)) ?_
  intro W base args ds gs before hval0 hW hcnd hsz0 _
  have hval : ∀ (j : Nat) t v, Try.f6.params[j]? = some t → args[j]? = some v → Value.okWide Try.prog W .any base t v := hval0
  have hW' := hW
  obtain ⟨p, q, hA0, hV, rfl, hfz, hnd⟩ := hW
  have hA : DataW.TrodAll enc Try.prog W 0 (fun _ => true) true Try.f6.params.toList args.toList ds p := hA0
  rw [Try.params6] at hA hval
  obtain ⟨v0, vs0, d0, ds0, p0, q0, hargs, rfl, rfl, h0, r0⟩ := trodAll_cons hA
  obtain ⟨v1, vs1, d1, ds1, p1, q1, rfl, rfl, rfl, h1, r1⟩ := trodAll_cons r0
  obtain ⟨rfl, rfl, rfl⟩ := trodAll_nil r1
  obtain rfl : args = #[v0, v1] := by cases args; simp_all
  obtain ⟨rfl, rfl⟩ := trodVars_none hV
  have k0 := h0
  have lt0 : ∀ x ∈ p0, x.block < W.heap.size := by obtain ⟨m, hm⟩ := k0; exact DataW.trod_lt m _ _ _ hm
  obtain ⟨xs0, ⟨A0, cap0, hv0, hcap0, hC0⟩, hl0, hw0, hok0⟩ := OpensW.trod (opens22) h0 hsz0 (j := 0) (by kernel_rfl) rfl
  obtain ⟨a0, len0, cp0, rfl⟩ := okWide_slice Try.underlying22 (hval 0 22 v0 rfl rfl)
  simp [Value.cells] at hv0
  obtain ⟨rfl, rfl, rfl⟩ := hv0
  obtain ⟨a1, rfl, rfl, rfl, w1⟩ := open_int Try.underlying3 (hval 1 3 v1 rfl rfl) h1
  clear hA0 hval0 hsz0
  refine (behind_law a0 cp0 xs0 a1 W hC0 hcap0 (by omega) (rows_of hok0)).mono fun e W' ⟨he, bel⟩ => ?_
  subst he
  exact ⟨_, rfl, _, _, _, [], _, [], hW', trodAll_mk1 (shut_bool Try.underlying4 _), (trodAll_cons_mk (Below.trod laidOut (by kernel_rfl) (of_decide_eq_true (by kernel_rfl)) k0 bel lt0) (trodAll_cons_mk (shut_int Try.underlying3 w1) trodAll_mk0)), rfl, bel.frame _, fun h => by cases h⟩
theorem over : Rows.waveBehindRow.holds Try.pinned (OpenSpec.ofChange Rows.waveBehindSpec) :=
  OpenClaim.holds_of_wide 6 Try.f6 rfl rfl rfl rfl rfl rfl rfl ⟨rfl, rfl, rfl, rfl, rfl⟩ rfl rfl rfl rfl rfl (by kernel_rfl) Try.func6 (by kernel_rfl)
    (of_decide_eq_true (by kernel_rfl)) (by unfold Func.isWrapper; first | (rw [if_pos (by decide +kernel)]; kernel_rfl) | (rw [if_neg (by decide +kernel)]; exact ⟨rfl, rfl⟩))
    (fun os started H enc _ => lifted os started H enc)
end Go.Proofs.Ytkeadpichlgagaa.WbC
namespace Go.Proofs.Ytkeadpichlgagaa
/-- The row, under a short name, for the claim. -/
theorem waveBehind_holds : Rows.WaveBehindSaid := WbC.over
#print axioms waveBehind_holds
end Go.Proofs.Ytkeadpichlgagaa
