/- MembersMeet: for every argument the law answers true, and the arguments read as they did. No condition. -/
import Derived.Test.YtkeadpichlgagaaRows
import Derived.Test.YtkeadpichlgagaaMeM
import Derived.Test.YtkeadpichlgagaaOp
import Derived.WalkKit
import Derived.ProofKit
import Derived.OpenShut
import Derived.ShutString
import Derived.ChangeOld
import Derived.Below
import Derived.SizedLaws
import Derived.Lib.SmallJoins
namespace Go.Proofs.Ytkeadpichlgagaa.MmRow
open Go.ChangeShapes Go.WideShapes Go.ChangeAt Go.RowKit Go.Joins
open Go.Proofs.YtkeadpichlgagaaW.PrintWords Go.Proofs.Ytkeadpichlgagaa.Op Go.Proofs.Ytkeadpichlgagaa.Me Go.Proofs.Ytkeadpichlgagaa.PMembersNext
set_option linter.unusedVariables false
theorem own : ownKnob Try.prog.godebug = none := by kernel_rfl
theorem laidOut : laidOutB Try.prog = true := by kernel_rfl
theorem opens25 : Opens Try.prog 25 (Kd.slice 3 (Kd.int .i64)) (fun xs => xs.length ≤ maxLen ∧ ∀ x ∈ xs, (Lit.int .i64 x).wf = true) := opens_slice Try.underlying25 (by kernel_rfl) (opens_int Try.underlying3)
theorem opens67 : Opens Try.prog 67 PMembersNext.k67 (fun _ => True) :=
  (opens_struct (fun x : PMembersNext.S67 => (x.f0, x.f1)) (fun t => ⟨t.1, t.2⟩) (fun _ => rfl) Try.underlying67 (by kernel_rfl)
    (fields_cons opens25 rfl (by kernel_rfl) (fields_one opens25 rfl (by kernel_rfl)))).imp (fun _ _ => trivial)
theorem opens84 : Opens Try.prog 84 Me.k84 (fun _ => True) :=
  (opens_struct (fun x : Me.S84 => (x.f0, x.f1)) (fun t => ⟨t.1, t.2⟩) (fun _ => rfl) Try.underlying84 (by kernel_rfl)
    (fields_cons (opens_int Try.underlying3) rfl (by kernel_rfl) (fields_one (opens_int Try.underlying3) rfl (by kernel_rfl)))).imp (fun _ _ => trivial)
theorem opens77 : Opens Try.prog 77 (Kd.slice 84 Me.k84) (fun xs => xs.length ≤ maxLen ∧ ∀ x ∈ xs, True) := opens_slice Try.underlying77 (by kernel_rfl) opens84
theorem opens_array2 {P : Program} {T e : TypeId} {α : Type} {d : Kd α} {ok : α → Prop} (ht : P.underlying T = some (.array 2 e)) (hz : P.cellsOf e = d.sz) (hzT : P.cellsOf T = d.sz + d.sz) (h : Opens P e d ok) :
    Opens P T (Kd.pair d d) (fun x => ok x.1 ∧ ok x.2) := by
  refine ⟨fun {H} enc w base spare held fuel cs x hx => ?_⟩
  obtain ⟨xs, m, rfl, _, hl, hlen, hf⟩ := DataW.trod_array ht hx
  rw [hzT] at hl
  have h0 := hf 0 (by decide)
  have h1 := hf 1 (by decide)
  rw [List.getElem?_eq_getElem (by omega), hz, Nat.zero_mul, List.drop_zero] at h0
  rw [List.getElem?_eq_getElem (by omega), hz, Nat.one_mul] at h1
  obtain ⟨a, k1, o1⟩ := h.out enc w base spare held m _ _ h0
  obtain ⟨b, k2, o2⟩ := h.out enc w base spare held m _ _ h1
  refine ⟨(a, b), ⟨_, _, ?_, k1, k2⟩, o1, o2⟩
  rw [List.take_of_length_le (l := cs.drop d.sz) (by simp; omega)]
  exact (List.take_append_drop _ _).symm
theorem opens86 : Opens Try.prog 86 PMembersNext.k67 (fun _ => True) := by
  have h := opens_array2 (P := Try.prog) (T := 86) Try.underlying86 (by kernel_rfl) (by kernel_rfl) opens25
  refine ⟨fun {H} enc w base spare held fuel cs x hx => ?_⟩
  obtain ⟨a, h1, _⟩ := h.out enc w base spare held fuel cs x hx
  exact ⟨⟨a.1, a.2⟩, h1, trivial⟩
set_option maxRecDepth 100000 in
theorem lifted (os : Os) (started : os.Started) (H : Type) (enc : TypeId × Value → H) :
    ReturnsInHanded {} Try.checked os 13 .any (Rows.membersMeetSpec.pre6 enc Try.prog Try.f13 Rows.membersMeetRow.domain false) (Rows.membersMeetSpec.post enc Try.prog Try.f13 false true false false) := by
  refine returnsInHanded_of_change_sized (C := Try.checked) own started (by kernel_rfl) Try.func13
    (ChangeSpec.witness6 (enc := enc) (C := Try.checked) false ⟨#[], #[.agg #[.slice none 0 0, .slice none 0 0], .agg #[.int .i64 0, .int .i64 0], .agg #[.slice none 0 0, .slice none 0 0]], []⟩ 8 (by kernel_rfl) (by kernel_rfl) (by kernel_rfl) (by kernel_rfl)) ?_
  intro W base args ds gs before hval0 hW hcnd hsz0 _
  have hval : ∀ (j : Nat) t v, Try.f13.params[j]? = some t → args[j]? = some v → Value.okWide Try.prog W .any base t v := hval0
  have hW' := hW
  obtain ⟨p, q, hA0, hV, rfl, hfz, hnd⟩ := hW
  have hA : DataW.TrodAll enc Try.prog W 0 (fun _ => true) true Try.f13.params.toList args.toList ds p := hA0
  rw [Try.params13] at hA hval
  obtain ⟨v0, vs0, d0, ds0, p0, q0, hargs, rfl, rfl, h0, r0⟩ := trodAll_cons hA
  obtain ⟨v1, vs1, d1, ds1, p1, q1, rfl, rfl, rfl, h1, r1⟩ := trodAll_cons r0
  obtain ⟨v2, vs2, d2, ds2, p2, q2, rfl, rfl, rfl, h2, r2⟩ := trodAll_cons r1
  obtain ⟨rfl, rfl, rfl⟩ := trodAll_nil r2
  obtain rfl : args = #[v0, v1, v2] := by cases args; simp_all
  obtain ⟨rfl, rfl⟩ := trodVars_none hV
  have k0 := h0
  have lt0 : ∀ x ∈ p0, x.block < W.heap.size := by obtain ⟨m, hm⟩ := k0; exact DataW.trod_lt m _ _ _ hm
  obtain ⟨cs0, rfl, hsz0⟩ : ∃ cs, v0 = .agg cs ∧ cs.size = Try.prog.cellsOf 67 := by
    have h := hval 0 67 v0 rfl rfl
    unfold Value.okWide at h
    rw [Try.underlying67] at h
    obtain ⟨cs, h1, h2, _⟩ := h
    exact ⟨cs, h1, h2⟩
  obtain ⟨xs0, hK0, hok0⟩ := (opens67).trod h0
  obtain ⟨A0, c0, B0, d0, hcs0, l0, g0, m0, f0⟩ := PMembersNext.k67_open hK0
  obtain rfl : cs0 = #[.slice A0 xs0.f0.length c0, .slice B0 xs0.f1.length d0] := by
    have h : cs0.toList = [.slice A0 xs0.f0.length c0, .slice B0 xs0.f1.length d0] := hcs0
    exact Array.ext' (by simpa using h)
  have k1 := h1
  have lt1 : ∀ x ∈ p1, x.block < W.heap.size := by obtain ⟨m, hm⟩ := k1; exact DataW.trod_lt m _ _ _ hm
  obtain ⟨cs1, rfl, hsz1⟩ : ∃ cs, v1 = .agg cs ∧ cs.size = Try.prog.cellsOf 84 := by
    have h := hval 1 84 v1 rfl rfl
    unfold Value.okWide at h
    rw [Try.underlying84] at h
    obtain ⟨cs, h1, h2, _⟩ := h
    exact ⟨cs, h1, h2⟩
  obtain ⟨xs1, hK1, hok1⟩ := (opens84).trod h1
  have hcs1 := Me.k84_open hK1
  obtain rfl : cs1 = #[.int .i64 xs1.f0, .int .i64 xs1.f1] := by
    have h : cs1.toList = [.int .i64 xs1.f0, .int .i64 xs1.f1] := hcs1
    exact Array.ext' (by simpa using h)
  have k2 := h2
  have lt2 : ∀ x ∈ p2, x.block < W.heap.size := by obtain ⟨m, hm⟩ := k2; exact DataW.trod_lt m _ _ _ hm
  obtain ⟨cs2, rfl, hsz2⟩ : ∃ cs, v2 = .agg cs ∧ cs.size = Try.prog.cellsOf 86 := by
    have h := hval 2 86 v2 rfl rfl
    unfold Value.okWide at h
    rw [Try.underlying86] at h
    obtain ⟨cs, h1, h2, _⟩ := h
    exact ⟨cs, h1, h2⟩
  obtain ⟨xs2, hK2, hok2⟩ := (opens86).trod h2
  obtain ⟨A2, c2, B2, d2, hcs2, l2, g2, m2, f2⟩ := PMembersNext.k67_open hK2
  obtain rfl : cs2 = #[.slice A2 xs2.f0.length c2, .slice B2 xs2.f1.length d2] := by
    have h : cs2.toList = [.slice A2 xs2.f0.length c2, .slice B2 xs2.f1.length d2] := hcs2
    exact Array.ext' (by simpa using h)
  clear hA0 hval0 hsz0
  refine (meet_law A0 B0 c0 d0 xs0 xs1.f0 xs1.f1 A2 B2 c2 d2 xs2.f0 xs2.f1 W ⟨g0, l0, f0, m0⟩ g2 l2 f2 m2).mono fun e W' ⟨he, bel⟩ => ?_
  subst he
  exact ⟨_, rfl, _, _, _, [], _, [], hW', trodAll_mk1 (shut_bool Try.underlying4 _), (trodAll_cons_mk (Below.trod laidOut (by kernel_rfl) (of_decide_eq_true (by kernel_rfl)) k0 bel lt0) (trodAll_cons_mk (Below.trod laidOut (by kernel_rfl) (of_decide_eq_true (by kernel_rfl)) k1 bel lt1) (trodAll_cons_mk (Below.trod laidOut (by kernel_rfl) (of_decide_eq_true (by kernel_rfl)) k2 bel lt2) trodAll_mk0))), rfl, bel.frame _, fun h => by cases h⟩
theorem over : Rows.membersMeetRow.holds Try.pinned (OpenSpec.ofChange Rows.membersMeetSpec) :=
  OpenClaim.holds_of_wide 13 Try.f13 rfl rfl rfl rfl rfl rfl rfl ⟨rfl, rfl, rfl, rfl, rfl⟩ rfl rfl rfl rfl rfl (by kernel_rfl) Try.func13 (by kernel_rfl)
    (of_decide_eq_true (by kernel_rfl)) (by unfold Func.isWrapper; first | (rw [if_pos (by decide +kernel)]; kernel_rfl) | (rw [if_neg (by decide +kernel)]; exact ⟨rfl, rfl⟩))
    (fun os started H enc _ => lifted os started H enc)
end Go.Proofs.Ytkeadpichlgagaa.MmRow
namespace Go.Proofs.Ytkeadpichlgagaa
/-- The row, under a short name, for the claim. -/
theorem membersMeet_holds : Rows.MembersMeetSaid := MmRow.over
#print axioms membersMeet_holds
end Go.Proofs.Ytkeadpichlgagaa
