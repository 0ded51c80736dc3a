/- members: the document's Majority, plain; and what MembersRights asks. -/
import Derived.Test.YtkeadpichlgagaaMeM
import Derived.Test.YtkeadpichlgagaaPMembersRightsx9
namespace Go.Proofs.Ytkeadpichlgagaa.Me
open Go.RowKit Go.Lib Go.Sort Go.Shelf Go.Proofs.YtkeadpichlgagaaW.PrintWords Go.Proofs.YtkeadpichlgagaaW.PrintLast Go.Proofs.YtkeadpichlgagaaW.PrintMore
open Go.Proofs.Ytkeadpichlgagaa.Mp
set_option linter.unusedVariables false
set_option linter.unusedSimpArgs false
set_option linter.unnecessarySimpa false
section
open Go.Proofs.Ytkeadpichlgagaa.PMembersRights
theorem in_inR (l : List Int) (c : Int) (hl : l.length ≤ 1000000000) : ∀ d i : Nat, i + d = l.length → Ev (fun k => echelonref08_In.l0 k l c (i : Int)) (decide (c ∈ l.drop i))
  | 0, i, h => by
    rw [List.drop_of_length_le (by omega)]
    exact Ev.step (f := fun _ => some _) (fun k => by simp only [echelonref08_In.l0]; rw [if_neg (by omega)]; rfl) (Ev.now _)
  | d + 1, i, h => by
    have hlt : i < l.length := by omega
    have ih := in_inR l c hl d (i + 1) (by omega)
    rw [List.drop_eq_getElem_cons hlt]
    by_cases hq : l[i] = c
    · have e : decide (c ∈ l[i] :: l.drop (i + 1)) = true := by simp [hq]
      rw [e]
      exact Ev.step (f := fun _ => some true) (fun k => by simp only [echelonref08_In.l0]; rw [if_pos (by omega), if_pos (by omega), rd_at l hlt, if_pos hq]) (Ev.now _)
    · have e : decide (c ∈ l[i] :: l.drop (i + 1)) = decide (c ∈ l.drop (i + 1)) := by
        rw [Bool.eq_iff_iff, decide_eq_true_iff, decide_eq_true_iff, List.mem_cons]
        exact ⟨fun h => h.resolve_left (fun h => hq h.symm), .inr⟩
      rw [e]
      exact Ev.step (fun k => by simp only [echelonref08_In.l0]; rw [if_pos (by omega), if_pos (by omega), rd_at l hlt, if_neg hq, inc i (by omega)]) ih
theorem in_evR (l : List Int) (c : Int) (hl : l.length ≤ 1000000000) : Ev (fun k => echelonref08_In.f k l c) (decide (c ∈ l)) := by
  have h := in_inR l c hl l.length 0 (by omega)
  rw [List.drop_zero] at h
  exact h


theorem refmaj_in (V L ids : List Int) (hV : V.length ≤ 1000000) (hi : ids.length ≤ 1000000000) : ∀ d i : Nat, i + d = V.length → Ev (fun k => echelonref08_Majority.l0 k ids (2 * (cntIn (V.take i) ids : Nat) : Int) (i : Int) V L) (majB V ids)
  | 0, i, h => by
    rw [List.take_of_length_le (by omega)]
    have hc := cntIn_le V ids
    have e2 : decide (2 * (cntIn V ids : Int) > (V.length : Int)) = majB V ids := by unfold majB; rw [Bool.eq_iff_iff, decide_eq_true_iff, decide_eq_true_iff]; omega
    rw [← e2]
    exact Ev.step (f := fun _ => some _) (fun k => by simp only [echelonref08_Majority.l0]; rw [if_neg (by omega)]) (Ev.now _)
  | d + 1, i, h => by
    have hlt : i < V.length := by omega
    have ih := refmaj_in V L ids hV hi d (i + 1) (by omega)
    have hc := cntIn_le (V.take i) ids
    have hc2 : (V.take i).length ≤ i := List.length_take_le _ _
    have C := in_evR ids V[i] hi
    have hw : wrap64 (2 * (cntIn (V.take i) ids : Int) + 2) = 2 * ((cntIn (V.take i) ids + 1 : Nat) : Int) := by unfold wrap64; omega
    refine Ev.step (f := fun k => (echelonref08_In.f k ids V[i]).bind fun t109 => (if t109 = true then (echelonref08_Majority.l0 k ids (2 * ((cntIn (V.take i) ids + 1 : Nat) : Int)) ((i + 1 : Nat) : Int) V L) else (echelonref08_Majority.l0 k ids (2 * (cntIn (V.take i) ids : Nat) : Int) ((i + 1 : Nat) : Int) V L))) (fun k => by
      simp only [echelonref08_Majority.l0]
      rw [if_pos (by omega), if_pos (by omega), rd_at V hlt, inc i (by omega), hw]) (Ev.bind C ?_)
    rw [cntIn_succ V ids hlt] at ih
    by_cases hm : V[i] ∈ ids
    · simp only [hm, decide_true, if_true] at ih ⊢
      exact ih
    · simp only [hm, decide_false, Bool.false_eq_true, if_false, Nat.add_zero] at ih ⊢
      exact ih
theorem refmaj_ev (V L ids : List Int) (hV : V.length ≤ 1000000) (hi : ids.length ≤ 1000000000) : Ev (fun k => echelonref08_Majority.f k V L ids) (majB V ids) := refmaj_in V L ids hV hi V.length 0 (by omega)
end
open Go.Proofs.Ytkeadpichlgagaa.PMembersNext
theorem refmaj_calls (A0 A1 : Option Addr) (c0 c1 : Nat) (x : S67) (Ai : Option Addr) (ci : Nat) (ids : List Int) (w : World) (hx : CfR w x A0 c0 A1 c1) (hi : (Kd.int .i64).C w Ai ids.length ids) (hci : ids.length ≤ ci) (h0 : x.f0.length ≤ 1000000) (h1 : ids.length ≤ 1000000) :
    Calls Try.prog 54 #[.agg #[.slice A0 x.f0.length c0, .slice A1 x.f1.length c1], .slice Ai ids.length ci] w fun e w' => e = .returned (.bool (majB x.f0 ids)) ∧ Below w.heap.size w w' := by
  obtain ⟨k, hk⟩ := (refmaj_ev x.f0 x.f1 ids h0 (by omega)).rounds
  exact PMembersRights.echelonref08_Majority.calls k A0 c0 x.f0 A1 c1 x.f1 Ai ci ids _ w hx.g0 hx.l0 hx.g1 hx.l1 hi hci hk
theorem quorum_at (V L : List Int) (h : V.length ≤ 1000000) : members_Quorum.f V L = some ((V.length : Int) / 2 + 1) := by
  unfold members_Quorum.f
  have e0 : wrap64 ((V.length : Int) / 2) = (V.length : Int) / 2 := by unfold wrap64; omega
  have e : wrap64 ((V.length : Int) / 2 + 1) = (V.length : Int) / 2 + 1 := by unfold wrap64; omega
  simp [e0, e]
theorem quorum_calls (A0 A1 : Option Addr) (c0 c1 : Nat) (x : S67) (w : World) (hx : CfR w x A0 c0 A1 c1) (h0 : x.f0.length ≤ 1000000) :
    Calls Try.prog 55 #[.agg #[.slice A0 x.f0.length c0, .slice A1 x.f1.length c1]] w fun e w' => e = .returned (.int .i64 ((x.f0.length : Int) / 2 + 1)) ∧ Below w.heap.size w w' :=
  members_Quorum.calls A0 c0 x.f0 A1 c1 x.f1 _ w hx.g0 hx.l0 hx.g1 hx.l1 (quorum_at _ _ h0)
theorem votes_calls (A0 A1 : Option Addr) (c0 c1 : Nat) (x : S67) (q : Int) (w : World) (hx : CfR w x A0 c0 A1 c1) (h0 : x.f0.length ≤ 1000000) :
    Calls Try.prog 57 #[.agg #[.slice A0 x.f0.length c0, .slice A1 x.f1.length c1], .int .i64 q] w fun e w' => e = .returned (.bool (decide (q ∈ x.f0))) ∧ Below w.heap.size w w' := by
  obtain ⟨k, hk⟩ := (votes_ev x.f0 x.f1 q (by omega)).rounds
  exact members_Votes.calls k A0 c0 x.f0 A1 c1 x.f1 q _ w hx.g0 hx.l0 hx.g1 hx.l1 hk
theorem has_calls (A0 A1 : Option Addr) (c0 c1 : Nat) (x : S67) (q : Int) (w : World) (hx : CfR w x A0 c0 A1 c1) (h0 : x.f0.length ≤ 1000000) (h1 : x.f1.length ≤ 1000000) :
    Calls Try.prog 58 #[.agg #[.slice A0 x.f0.length c0, .slice A1 x.f1.length c1], .int .i64 q] w fun e w' => e = .returned (.bool (decide (q ∈ x.f0 ∨ q ∈ x.f1))) ∧ Below w.heap.size w w' := by
  obtain ⟨k, hk⟩ := (has_ev x.f0 x.f1 q (by omega) (by omega)).rounds
  exact members_Has.calls k A0 c0 x.f0 A1 c1 x.f1 q _ w hx.g0 hx.l0 hx.g1 hx.l1 hk
theorem right0_calls (w : World) : Calls Try.prog 52 #[.slice none 0 0] w fun e w' => e = .returned (.bool true) ∧ Below w.heap.size w w' :=
  right_calls none 0 [] w ⟨rfl, by decide, fun h => by simp at h⟩ (fun x h => by cases h)
theorem addr_zero (ad : Addr) : ad.add 0 = ad := by cases ad; simp [Addr.add]
theorem addr_succ (ad : Addr) (j : Nat) : ad.add (j + 1) = ⟨ad.block, ad.off + (j + 1), none⟩ := by cases ad; simp [Addr.add]
/-- The cell of a row. -/
theorem row_cell {w : World} {A : Option Addr} {xs : List Int} (h : (Kd.int .i64).C w A xs.length xs) {i : Nat} (hi : i < xs.length) : ∃ ad, A = some ad ∧ ∀ W, Below w.heap.size w W → W.cell? (ad.add i) = some (.int .i64 xs[i]) := by
  obtain ⟨ad, e, _⟩ := h.2.2 (by omega)
  subst e
  refine ⟨ad, rfl, fun W hW => ?_⟩
  rw [C_cells (Kd.C_below h hW) rfl i hi]
  simp [hi]
end Go.Proofs.Ytkeadpichlgagaa.Me
