/- members: what the printed functions answer, plain. -/
import Derived.Test.YtkeadpichlgagaaPMembersNextx1
import Derived.Test.YtkeadpichlgagaaPMembersNextx8
import Derived.Test.YtkeadpichlgagaaPMembersNextx9
import Derived.Test.YtkeadpichlgagaaPMembersNextx10
namespace Go.Proofs.Ytkeadpichlgagaa.Me
open Go.RowKit Go.Proofs.YtkeadpichlgagaaW.PrintWords Go.Proofs.YtkeadpichlgagaaW.PrintLast Go.Proofs.YtkeadpichlgagaaW.PrintMore
open Go.Proofs.Ytkeadpichlgagaa.PMembersNext
set_option linter.unusedVariables false
set_option linter.unusedSimpArgs false

theorem rd_at (l : List Int) {i : Nat} (h : i < l.length) : rd l (i : Int) = l[i] := by simp [rd, h]
theorem inc (i : Nat) (h : i < 9223372036854775807) : wrap64 ((i : Int) + 1) = ((i + 1 : Nat) : Int) := by unfold wrap64; omega

theorem index_ev (l : List Int) (c : Int) (hl : l.length ≤ 1000000000) : ∀ d i : Nat, i + d = l.length →
    ∃ r, Ev (fun k => slices_Index_int_int.l0 k l c (l.length : Int) (i : Int)) r ∧ (0 ≤ r ↔ c ∈ l.drop i)
  | 0, i, h => ⟨-1, Ev.step (f := fun _ => some (-1)) (fun k => by simp only [slices_Index_int_int.l0]; rw [if_neg (by omega)]) (Ev.now _), by rw [List.drop_of_length_le (by omega)]; simp⟩
  | d + 1, i, h => by
    have hlt : i < l.length := by omega
    rw [List.drop_eq_getElem_cons hlt]
    by_cases hq : c = l[i]
    · exact ⟨i, Ev.step (f := fun _ => some (i : Int)) (fun k => by simp only [slices_Index_int_int.l0]; rw [if_pos (by omega), if_pos (by omega), if_pos (by omega), rd_at l hlt, if_pos hq]) (Ev.now _), fun _ => by rw [hq]; exact List.mem_cons_self, fun _ => by omega⟩
    · obtain ⟨r, h1, h2⟩ := index_ev l c hl d (i + 1) (by omega)
      exact ⟨r, Ev.step (fun k => by simp only [slices_Index_int_int.l0]; rw [if_pos (by omega), if_pos (by omega), if_pos (by omega), rd_at l hlt, if_neg hq, inc i (by omega)]) h1, by rw [h2, List.mem_cons]; simp [hq]⟩
theorem contains_ev (l : List Int) (c : Int) (hl : l.length ≤ 1000000000) : Ev (fun k => slices_Contains_int_int.f k l c) (decide (c ∈ l)) := by
  obtain ⟨r, h1, h2⟩ := index_ev l c hl l.length 0 (by omega)
  have h3 : Ev (fun k => slices_Index_int_int.f k l c) r := h1
  refine Ev.congr (fun k => by unfold slices_Contains_int_int.f; rfl) (Ev.bind (f := fun n t => some (decide (t ≥ 0))) h3 ?_)
  have e : decide (r ≥ 0) = decide (c ∈ l) := decide_eq_decide.2 (by rw [List.drop_zero] at h2; exact h2)
  rw [e]
  exact Ev.now _

/-- Numbers that rise, within their bounds. -/
structure Ris (l : List Int) : Prop where
  bd : ∀ x ∈ l, 0 ≤ x ∧ x < 1048576
  up : l.Pairwise (· < ·)
open Classical in
noncomputable def risB (l : List Int) : Bool := decide (Ris l)
theorem risB_true {l : List Int} (h : Ris l) : risB l = true := by unfold risB; simp [h]
theorem risB_false {l : List Int} (h : ¬ Ris l) : risB l = false := by unfold risB; simp [h]
theorem risB_iff {l : List Int} : risB l = true ↔ Ris l := by unfold risB; simp
theorem Ris.nil : Ris [] := ⟨fun x h => (by cases h), List.Pairwise.nil⟩
theorem Ris.take {l : List Int} (h : Ris l) (i : Nat) : Ris (l.take i) := ⟨fun x hx => h.bd x (List.mem_of_mem_take hx), List.Pairwise.sublist (List.take_sublist i l) h.up⟩
theorem Ris.snoc {l : List Int} {i : Nat} (h : Ris (l.take i)) (hi : i < l.length) (h0 : 0 ≤ l[i]) (h1 : l[i] < 1048576) (hp : ∀ (hz : 0 < i), l[i - 1] < l[i]) : Ris (l.take (i + 1)) := by
  rw [List.take_succ_eq_append_getElem hi]
  refine ⟨fun x hx => ?_, ?_⟩
  · rcases List.mem_append.1 hx with hx | hx
    · exact h.bd x hx
    · simp at hx; subst hx; exact ⟨h0, h1⟩
  · rw [List.pairwise_append]
    refine ⟨h.up, by simp, fun a ha b hb => ?_⟩
    simp at hb; subst hb
    obtain ⟨j, hj, rfl⟩ := List.getElem_of_mem ha
    have hj' : j < i := by simp at hj; omega
    rw [List.getElem_take]
    have hlast := hp (by omega)
    by_cases hji : j = i - 1
    · subst hji; exact hlast
    · have hu := List.pairwise_iff_getElem.1 h.up j (i - 1) (by simp; omega) (by simp; omega) (by omega)
      rw [List.getElem_take, List.getElem_take] at hu
      omega
theorem rising_in (l : List Int) (hl : l.length ≤ 1000000000) : ∀ d i : Nat, i + d = l.length → Ris (l.take i) → Ev (fun k => members_rising.l0 k l l (l.length : Int) (i : Int)) (risB l)
  | 0, i, h, hr => by
    rw [List.take_of_length_le (by omega)] at hr
    rw [risB_true hr]
    exact Ev.step (f := fun _ => some true) (fun k => by simp only [members_rising.l0]; rw [if_neg (by omega)]) (Ev.now _)
  | d + 1, i, h, hr => by
    have hlt : i < l.length := by omega
    have hbd : Ris l → 0 ≤ l[i] ∧ l[i] < 1048576 := fun h => h.bd _ (List.getElem_mem hlt)
    by_cases h0 : l[i] < 0
    · rw [risB_false (fun h => by have := hbd h; omega)]
      exact Ev.step (f := fun _ => some false) (fun k => by simp only [members_rising.l0]; rw [if_pos (by omega), if_pos (by omega), if_pos (by omega), rd_at l hlt, if_pos h0]) (Ev.now _)
    · by_cases h1 : l[i] ≥ 1048576
      · rw [risB_false (fun h => by have := hbd h; omega)]
        exact Ev.step (f := fun _ => some false) (fun k => by simp only [members_rising.l0]; rw [if_pos (by omega), if_pos (by omega), if_pos (by omega), rd_at l hlt, if_neg h0, if_pos h1]) (Ev.now _)
      · by_cases hz : 0 < i
        · have e : wrap64 ((i : Int) - 1) = ((i - 1 : Nat) : Int) := by unfold wrap64; omega
          have hlt1 : i - 1 < l.length := by omega
          by_cases h2 : l[i] ≤ l[i - 1]
          · rw [risB_false (fun h => by have := List.pairwise_iff_getElem.1 h.up (i - 1) i hlt1 hlt (by omega); omega)]
            exact Ev.step (f := fun _ => some false) (fun k => by simp only [members_rising.l0]; rw [if_pos (by omega), if_pos (by omega), if_pos (by omega), rd_at l hlt, if_neg h0, if_neg h1, if_pos (by omega), e, if_pos (by omega), if_pos (by omega), rd_at l hlt1, if_pos h2]) (Ev.now _)
          · refine Ev.step (fun k => by simp only [members_rising.l0]; rw [if_pos (by omega), if_pos (by omega), if_pos (by omega), rd_at l hlt, if_neg h0, if_neg h1, if_pos (by omega), e, if_pos (by omega), if_pos (by omega), rd_at l hlt1, if_neg h2, inc i (by omega)]) (rising_in l hl d (i + 1) (by omega) (hr.snoc hlt (by omega) (by omega) (fun _ => by omega)))
        · refine Ev.step (fun k => by simp only [members_rising.l0]; rw [if_pos (by omega), if_pos (by omega), if_pos (by omega), rd_at l hlt, if_neg h0, if_neg h1, if_neg (by omega), inc i (by omega)]) (rising_in l hl d (i + 1) (by omega) (hr.snoc hlt (by omega) (by omega) (fun hz' => absurd hz' hz)))
theorem rising_ev (l : List Int) (hl : l.length ≤ 1000000000) : Ev (fun k => members_rising.f k l) (risB l) := rising_in l hl l.length 0 (by omega) (by rw [List.take_zero]; exact Ris.nil)

/-- How many of a list are among the others. -/
def cntIn (V ids : List Int) : Nat := (V.filter (fun v => decide (v ∈ ids))).length
def majB (V ids : List Int) : Bool := decide (V.length < 2 * cntIn V ids)
theorem cntIn_le (V ids : List Int) : cntIn V ids ≤ V.length := List.length_filter_le _ _
theorem cntIn_succ (V ids : List Int) {i : Nat} (h : i < V.length) : cntIn (V.take (i + 1)) ids = cntIn (V.take i) ids + (if V[i] ∈ ids then 1 else 0) := by
  unfold cntIn
  rw [List.take_succ_eq_append_getElem h, List.filter_append, List.length_append]
  congr 1
  by_cases hm : V[i] ∈ ids <;> simp [hm]
theorem majority_in (V L ids : List Int) (hV : V.length ≤ 1000000) (hi : ids.length ≤ 1000000000) : ∀ d i : Nat, i + d = V.length → Ev (fun k => members_Majority.l0 k ids (cntIn (V.take i) ids : Nat) V (V.length : Int) (i : Int) V L) (majB V ids)
  | 0, i, h => by
    rw [List.take_of_length_le (by omega)]
    have hc := cntIn_le V ids
    have e : wrap64 (2 * (cntIn V ids : Int)) = 2 * (cntIn V ids : Int) := by unfold wrap64; omega
    have e2 : decide (wrap64 (2 * (cntIn V ids : Int)) > (V.length : Int)) = majB V ids := by unfold majB; rw [e, Bool.eq_iff_iff, decide_eq_true_iff, decide_eq_true_iff]; omega
    rw [← e2]
    exact Ev.step (f := fun _ => some _) (fun k => by simp only [members_Majority.l0]; rw [if_neg (by omega)]) (Ev.now _)
  | d + 1, i, h => by
    have hlt : i < V.length := by omega
    have ih := majority_in V L ids hV hi d (i + 1) (by omega)
    have hc := cntIn_le (V.take i) ids
    have hc2 : (V.take i).length ≤ i := List.length_take_le _ _
    have C := contains_ev ids V[i] hi
    refine Ev.step (f := fun k => (slices_Contains_int_int.f k ids V[i]).bind fun t109 => (if t109 = true then (members_Majority.l0 k ids ((cntIn (V.take i) ids + 1 : Nat) : Int) V (V.length : Int) ((i + 1 : Nat) : Int) V L) else (members_Majority.l0 k ids (cntIn (V.take i) ids : Nat) V (V.length : Int) ((i + 1 : Nat) : Int) V L))) (fun k => by
      simp only [members_Majority.l0]
      rw [if_pos (by omega), if_pos (by omega), if_pos (by omega), rd_at V hlt, inc i (by omega), inc _ (by omega)]) (Ev.bind C ?_)
    rw [cntIn_succ V ids hlt] at ih
    by_cases hm : V[i] ∈ ids
    · simp only [hm, decide_true, if_true] at ih ⊢
      exact ih
    · simp only [hm, decide_false, Bool.false_eq_true, if_false, Nat.add_zero] at ih ⊢
      exact ih
theorem majority_ev (V L ids : List Int) (hV : V.length ≤ 1000000) (hi : ids.length ≤ 1000000000) : Ev (fun k => members_Majority.f k V L ids) (majB V ids) := by
  have h := majority_in V L ids hV hi V.length 0 (by omega)
  exact h
theorem votes_ev (V L : List Int) (c : Int) (hV : V.length ≤ 1000000000) : Ev (fun k => members_Votes.f k V L c) (decide (c ∈ V)) :=
  Ev.congr (fun k => by unfold members_Votes.f; rfl) (Ev.bind (f := fun n t => some t) (contains_ev V c hV) (Ev.now _))
theorem has_ev (V L : List Int) (c : Int) (hV : V.length ≤ 1000000000) (hL : L.length ≤ 1000000000) : Ev (fun k => members_Has.f k V L c) (decide (c ∈ V ∨ c ∈ L)) := by
  refine Ev.congr (fun k => by unfold members_Has.f; rfl) (Ev.bind (f := fun n t => if t = true then (some true) else ((slices_Contains_int_int.f n L c).bind fun t115 => (some t115))) (votes_ev V L c hV) ?_)
  by_cases h : c ∈ V
  · simp only [h, decide_true, if_true, true_or]; exact Ev.now _
  · simp only [h, decide_false, Bool.false_eq_true, if_false, false_or]
    exact Ev.bind (f := fun n t => some t) (contains_ev L c hL) (Ev.now _)

theorem in_in (l : List Int) (c : Int) (hl : l.length ≤ 1000000000) : ∀ d i : Nat, i + d = l.length → Ev (fun k => echelonref08_In.l0 k l c (i : Int)) (decide (c ∈ l.drop i))
  | 0, i, h => by
    rw [List.drop_of_length_le (by omega)]
    exact Ev.step (f := fun _ => some _) (fun k => by simp only [echelonref08_In.l0]; rw [if_neg (by omega)]; rfl) (Ev.now _)
  | d + 1, i, h => by
    have hlt : i < l.length := by omega
    have ih := in_in l c hl d (i + 1) (by omega)
    rw [List.drop_eq_getElem_cons hlt]
    by_cases hq : l[i] = c
    · have e : decide (c ∈ l[i] :: l.drop (i + 1)) = true := by simp [hq]
      rw [e]
      exact Ev.step (f := fun _ => some true) (fun k => by simp only [echelonref08_In.l0]; rw [if_pos (by omega), if_pos (by omega), rd_at l hlt, if_pos hq]) (Ev.now _)
    · have e : decide (c ∈ l[i] :: l.drop (i + 1)) = decide (c ∈ l.drop (i + 1)) := by
        rw [Bool.eq_iff_iff, decide_eq_true_iff, decide_eq_true_iff, List.mem_cons]
        exact ⟨fun h => h.resolve_left (fun h => hq h.symm), .inr⟩
      rw [e]
      exact Ev.step (fun k => by simp only [echelonref08_In.l0]; rw [if_pos (by omega), if_pos (by omega), rd_at l hlt, if_neg hq, inc i (by omega)]) ih
theorem in_ev (l : List Int) (c : Int) (hl : l.length ≤ 1000000000) : Ev (fun k => echelonref08_In.f k l c) (decide (c ∈ l)) := by
  have h := in_in l c hl l.length 0 (by omega)
  rw [List.drop_zero] at h
  exact h

def dropF (l : List Int) (c : Int) : List Int := l.filter (fun x => !(x == c))
theorem dropF_len (l : List Int) (c : Int) : (dropF l c).length ≤ l.length := List.length_filter_le _ _
theorem dropF_succ (l : List Int) (c : Int) {i : Nat} (h : i < l.length) : dropF (l.take (i + 1)) c = if l[i] = c then dropF (l.take i) c else dropF (l.take i) c ++ [l[i]] := by
  unfold dropF
  rw [List.take_succ_eq_append_getElem h, List.filter_append]
  by_cases hq : l[i] = c <;> simp [hq]
theorem drop_in (l : List Int) (c : Int) (hl : l.length ≤ 1000000000) : ∀ d i : Nat, i + d = l.length → Ev (fun k => echelonref08_drop.l0 k l c (dropF (l.take i) c) (i : Int)) (dropF l c)
  | 0, i, h => by
    rw [List.take_of_length_le (by omega)]
    exact Ev.step (f := fun _ => some _) (fun k => by simp only [echelonref08_drop.l0]; rw [if_neg (by omega)]) (Ev.now _)
  | d + 1, i, h => by
    have hlt : i < l.length := by omega
    have ih := drop_in l c hl d (i + 1) (by omega)
    rw [dropF_succ l c hlt] at ih
    have h1 := dropF_len (l.take i) c
    have h2 : (l.take i).length ≤ i := List.length_take_le _ _
    by_cases hq : l[i] = c
    · rw [if_pos hq] at ih
      exact Ev.step (fun k => by simp only [echelonref08_drop.l0]; rw [if_pos (by omega), if_pos (by omega), rd_at l hlt, if_pos hq, inc i (by omega)]) ih
    · rw [if_neg hq] at ih
      exact Ev.step (fun k => by simp only [echelonref08_drop.l0]; rw [if_pos (by omega), if_pos (by omega), rd_at l hlt, if_neg hq, if_pos (by omega), inc i (by omega)]) ih
theorem drop_ev (l : List Int) (c : Int) (hl : l.length ≤ 1000000000) : Ev (fun k => echelonref08_drop.f k l c) (dropF l c) := drop_in l c hl l.length 0 (by omega)

/-- A number into a list, ahead of the first greater one. -/
def putF (c : Int) : List Int → List Int
  | [] => [c]
  | x :: r => if c < x then c :: x :: r else x :: putF c r
theorem put_done (l : List Int) (c : Int) (hl : l.length ≤ 1000000000) : ∀ d i : Nat, i + d = l.length → ∀ out : List Int, out.length ≤ i + 1 → Ev (fun k => echelonref08_put.l0 k l c out true (i : Int)) (out ++ l.drop i)
  | 0, i, h, out, ho => by
    rw [List.drop_of_length_le (by omega), List.append_nil]
    exact Ev.step (f := fun _ => some _) (fun k => by simp only [echelonref08_put.l0]; rw [if_neg (by omega), if_pos trivial]) (Ev.now _)
  | d + 1, i, h, out, ho => by
    have hlt : i < l.length := by omega
    have ih := put_done l c hl d (i + 1) (by omega) (out ++ [l[i]]) (by simp; omega)
    rw [List.drop_eq_getElem_cons hlt]
    rw [List.append_assoc, List.singleton_append] at ih
    exact Ev.step (fun k => by simp only [echelonref08_put.l0]; rw [if_pos (by omega), if_pos trivial, if_pos (by omega), if_pos (by omega), rd_at l hlt, inc i (by omega)]) ih
theorem put_in (l : List Int) (c : Int) (hl : l.length ≤ 1000000000) : ∀ d i : Nat, i + d = l.length → ∀ out : List Int, out.length ≤ i → Ev (fun k => echelonref08_put.l0 k l c out false (i : Int)) (out ++ putF c (l.drop i))
  | 0, i, h, out, ho => by
    rw [List.drop_of_length_le (by omega)]
    exact Ev.step (f := fun _ => some _) (fun k => by simp only [echelonref08_put.l0]; rw [if_neg (by omega), if_neg (by simp), if_pos (by omega)]; rfl) (Ev.now _)
  | d + 1, i, h, out, ho => by
    have hlt : i < l.length := by omega
    rw [List.drop_eq_getElem_cons hlt]
    unfold putF
    by_cases hq : c < l[i]
    · rw [if_pos hq]
      have ih := put_done l c hl d (i + 1) (by omega) ((out ++ [c]) ++ [l[i]]) (by simp; omega)
      have e : (out ++ [c]) ++ [l[i]] ++ l.drop (i + 1) = out ++ c :: l[i] :: l.drop (i + 1) := by simp
      rw [e] at ih
      exact Ev.step (fun k => by simp only [echelonref08_put.l0]; rw [if_pos (by omega), if_neg (by simp), if_pos (by omega), rd_at l hlt, if_pos (by omega), if_pos (by omega), Option.bind_some, if_pos (by simp; omega), inc i (by omega)]) ih
    · rw [if_neg hq]
      have ih := put_in l c hl d (i + 1) (by omega) (out ++ [l[i]]) (by simp; omega)
      rw [List.append_assoc, List.singleton_append] at ih
      exact Ev.step (fun k => by simp only [echelonref08_put.l0]; rw [if_pos (by omega), if_neg (by simp), if_pos (by omega), rd_at l hlt, if_neg (by omega), if_pos (by omega), inc i (by omega)]) ih
theorem put_ev (l : List Int) (c : Int) (hl : l.length ≤ 1000000000) : Ev (fun k => echelonref08_put.f k l c) (putF c l) := by
  have h := put_in l c hl l.length 0 (by omega) [] (by simp)
  rw [List.drop_zero, List.nil_append] at h
  exact h

theorem same_l1 (V L V' L' : List Int) (hL : L.length ≤ 1000000000) (hl : L.length = L'.length) : ∀ d i : Nat, i + d = L.length → Ev (fun k => echelonref08_Same.l1 k (i : Int) V L V' L') (decide (L.drop i = L'.drop i))
  | 0, i, h => by
    rw [List.drop_of_length_le (by omega), List.drop_of_length_le (by omega)]
    exact Ev.step (f := fun _ => some _) (fun k => by simp only [echelonref08_Same.l1]; rw [if_neg (by omega)]; rfl) (Ev.now _)
  | d + 1, i, h => by
    have hlt : i < L.length := by omega
    have hlt' : i < L'.length := by omega
    have ih := same_l1 V L V' L' hL hl d (i + 1) (by omega)
    rw [List.drop_eq_getElem_cons hlt, List.drop_eq_getElem_cons hlt']
    by_cases hq : L[i] = L'[i]
    · have e : decide (L[i] :: L.drop (i + 1) = L'[i] :: L'.drop (i + 1)) = decide (L.drop (i + 1) = L'.drop (i + 1)) := decide_eq_decide.2 ⟨fun h => (List.cons.inj h).2, fun h => by rw [hq, h]⟩
      rw [e]
      exact Ev.step (fun k => by simp only [echelonref08_Same.l1]; rw [if_pos (by omega), if_pos (by omega), if_pos (by omega), rd_at L hlt, rd_at L' hlt', if_pos hq, inc i (by omega)]) ih
    · have e : decide (L[i] :: L.drop (i + 1) = L'[i] :: L'.drop (i + 1)) = false := decide_eq_false (fun h => hq (List.cons.inj h).1)
      rw [e]
      exact Ev.step (f := fun _ => some false) (fun k => by simp only [echelonref08_Same.l1]; rw [if_pos (by omega), if_pos (by omega), if_pos (by omega), rd_at L hlt, rd_at L' hlt', if_neg hq]) (Ev.now _)
theorem same_l0 (V L V' L' : List Int) (hV : V.length ≤ 1000000000) (hL : L.length ≤ 1000000000) (hv : V.length = V'.length) (hl : L.length = L'.length) : ∀ d i : Nat, i + d = V.length → Ev (fun k => echelonref08_Same.l0 k (i : Int) V L V' L') (decide (V.drop i = V'.drop i ∧ L = L'))
  | 0, i, h => by
    rw [List.drop_of_length_le (by omega), List.drop_of_length_le (by omega)]
    have h1 := same_l1 V L V' L' hL hl L.length 0 (by omega)
    rw [List.drop_zero, List.drop_zero] at h1
    have e : decide (([] : List Int) = [] ∧ L = L') = decide (L = L') := by simp
    rw [e]
    exact Ev.step (fun k => by simp only [echelonref08_Same.l0]; rw [if_neg (by omega)]; rfl) h1
  | d + 1, i, h => by
    have hlt : i < V.length := by omega
    have hlt' : i < V'.length := by omega
    have ih := same_l0 V L V' L' hV hL hv hl d (i + 1) (by omega)
    rw [List.drop_eq_getElem_cons hlt, List.drop_eq_getElem_cons hlt']
    by_cases hq : V[i] = V'[i]
    · have e : decide (V[i] :: V.drop (i + 1) = V'[i] :: V'.drop (i + 1) ∧ L = L') = decide (V.drop (i + 1) = V'.drop (i + 1) ∧ L = L') := decide_eq_decide.2 ⟨fun h => ⟨(List.cons.inj h.1).2, h.2⟩, fun h => ⟨by rw [hq, h.1], h.2⟩⟩
      rw [e]
      exact Ev.step (fun k => by simp only [echelonref08_Same.l0]; rw [if_pos (by omega), if_pos (by omega), if_pos (by omega), rd_at V hlt, rd_at V' hlt', if_pos hq, inc i (by omega)]) ih
    · have e : decide (V[i] :: V.drop (i + 1) = V'[i] :: V'.drop (i + 1) ∧ L = L') = false := decide_eq_false (fun h => hq (List.cons.inj h.1).1)
      rw [e]
      exact Ev.step (f := fun _ => some false) (fun k => by simp only [echelonref08_Same.l0]; rw [if_pos (by omega), if_pos (by omega), if_pos (by omega), rd_at V hlt, rd_at V' hlt', if_neg hq]) (Ev.now _)
theorem same_ev (V L V' L' : List Int) (hV : V.length ≤ 1000000000) (hL : L.length ≤ 1000000000) : Ev (fun k => echelonref08_Same.f k V L V' L') (decide (V = V' ∧ L = L')) := by
  have hno : ∀ k : Nat, echelonref08_Same.j0 (k + 1) true V L V' L' = some false := fun k => by simp only [echelonref08_Same.j0]; rw [if_pos trivial]
  by_cases hv : V.length = V'.length
  · by_cases hl : L.length = L'.length
    · have h := same_l0 V L V' L' hV hL hv hl V.length 0 (by omega)
      rw [List.drop_zero, List.drop_zero] at h
      refine Ev.step (fun k => ?_) h
      unfold echelonref08_Same.f
      rw [if_pos (by omega)]
      have e : ((L.length : Int) != (L'.length : Int)) = false := by rw [hl]; simp
      rw [e]
      simp only [echelonref08_Same.j0]
      rw [if_neg (by simp)]
      rfl
    · have e : decide (V = V' ∧ L = L') = false := decide_eq_false (fun h => hl (by rw [h.2]))
      rw [e]
      refine Ev.step (f := fun _ => some false) (fun k => ?_) (Ev.now _)
      unfold echelonref08_Same.f
      rw [if_pos (by omega)]
      have e : ((L.length : Int) != (L'.length : Int)) = true := bne_iff_ne.2 (by omega)
      rw [e]
      exact hno k
  · have e : decide (V = V' ∧ L = L') = false := decide_eq_false (fun h => hv (by rw [h.1]))
    rw [e]
    refine Ev.step (f := fun _ => some false) (fun k => ?_) (Ev.now _)
    unfold echelonref08_Same.f
    rw [if_neg (by omega)]
    exact hno k
theorem small_at (V L : List Int) : echelonlaw08_small.f V L = some (decide (V.length ≤ 60 ∧ L.length ≤ 60)) := by
  unfold echelonlaw08_small.f
  by_cases h : V.length ≤ 60
  · rw [if_pos (by omega)]
    congr 1
    rw [Bool.eq_iff_iff, decide_eq_true_iff, decide_eq_true_iff]
    omega
  · rw [if_neg (by omega)]
    congr 1
    exact (decide_eq_false (fun hh => h hh.1)).symm

theorem less_at (a b : Int) : cmp_Less_int.f a b = some (decide (a < b)) := by
  unfold cmp_Less_int.f cmp_isNaN_int.f
  simp
/-- Where a number stands, or would. -/
structure Spot (l : List Int) (c : Int) (i : Nat) : Prop where
  le : i ≤ l.length
  lo : ∀ j, ∀ hj : j < l.length, j < i → l[j] < c
  hi : ∀ j, ∀ hj : j < l.length, i ≤ j → c ≤ l[j]
theorem search_in (l : List Int) (c : Int) (hl : l.length ≤ 1000000000) (hs : l.Pairwise (· < ·)) : ∀ d a b : Nat, b - a ≤ d → a ≤ b → b ≤ l.length → (∀ j, ∀ hj : j < l.length, j < a → l[j] < c) → (∀ j, ∀ hj : j < l.length, b ≤ j → c ≤ l[j]) →
    ∃ i : Nat, ∃ f : Bool, Spot l c i ∧ Ev (fun k => slices_BinarySearch_int_int.l0 k l c (l.length : Int) (a : Int) (b : Int)) ((i : Int), f)
  | d, a, b, hd, hab, hb, hlo, hhi => by
    by_cases hlt : a < b
    · have e : wrap64 ((IntKind.u64.wrap (wrap64 ((a : Int) + (b : Int)))) / 2) = (((a + b) / 2 : Nat) : Int) := by
        have e1 : wrap64 ((a : Int) + (b : Int)) = ((a + b : Nat) : Int) := by unfold wrap64; omega
        have e2 : IntKind.u64.wrap ((a + b : Nat) : Int) = ((a + b : Nat) : Int) := by unfold IntKind.wrap; simp [IntKind.bits, IntKind.signed]; omega
        rw [e1, e2]
        unfold wrap64
        omega
      have hm : (a + b) / 2 < l.length := by omega
      cases d with
      | zero => omega
      | succ d =>
        by_cases hq : l[(a + b) / 2] < c
        · obtain ⟨i, f, h1, h2⟩ := search_in l c hl hs d ((a + b) / 2 + 1) b (by omega) (by omega) hb (fun j hj hji => by
            by_cases hjm : j = (a + b) / 2
            · subst hjm; exact hq
            · have := List.pairwise_iff_getElem.1 hs j ((a + b) / 2) hj hm (by omega)
              omega) hhi
          exact ⟨i, f, h1, Ev.step (fun k => by simp only [slices_BinarySearch_int_int.l0]; rw [if_pos (by omega), e, if_pos (by omega), if_pos (by omega), rd_at l hm, less_at, Option.bind_some, if_pos (decide_eq_true hq), inc _ (by omega)]) h2⟩
        · obtain ⟨i, f, h1, h2⟩ := search_in l c hl hs d a ((a + b) / 2) (by omega) (by omega) (by omega) hlo (fun j hj hji => by
            by_cases hjm : j = (a + b) / 2
            · subst hjm; omega
            · have := List.pairwise_iff_getElem.1 hs ((a + b) / 2) j hm hj (by omega)
              omega)
          exact ⟨i, f, h1, Ev.step (fun k => by simp only [slices_BinarySearch_int_int.l0]; rw [if_pos (by omega), e, if_pos (by omega), if_pos (by omega), rd_at l hm, less_at, Option.bind_some, if_neg (by simpa using hq)]) h2⟩
    · have hab' : b = a := by omega
      subst hab'
      have hsp : Spot l c b := ⟨hb, hlo, hhi⟩
      by_cases hn : b < l.length
      · by_cases hq : l[b] = c
        · exact ⟨b, true, hsp, Ev.step (f := fun _ => some _) (fun k => by simp only [slices_BinarySearch_int_int.l0]; rw [if_neg (by omega), if_pos (by omega), if_pos (by omega), if_pos (by omega), rd_at l hn, if_pos hq]) (Ev.now _)⟩
        · exact ⟨b, false, hsp, Ev.step (f := fun _ => some _) (fun k => by simp only [slices_BinarySearch_int_int.l0]; rw [if_neg (by omega), if_pos (by omega), if_pos (by omega), if_pos (by omega), rd_at l hn, if_neg hq]; simp [slices_isNaN_int.f]) (Ev.now _)⟩
      · exact ⟨b, false, hsp, Ev.step (f := fun _ => some _) (fun k => by simp only [slices_BinarySearch_int_int.l0]; rw [if_neg (by omega), if_neg (by omega)]) (Ev.now _)⟩
theorem search_ev (l : List Int) (c : Int) (hl : l.length ≤ 1000000000) (hs : l.Pairwise (· < ·)) : ∃ i : Nat, ∃ f : Bool, Spot l c i ∧ Ev (fun k => slices_BinarySearch_int_int.f k l c) ((i : Int), f) :=
  search_in l c hl hs l.length 0 l.length (by omega) (by omega) (by omega) (fun j hj h => by omega) (fun j hj h => by omega)
theorem putF_spot {c : Int} : ∀ {l : List Int} {i : Nat}, Spot l c i → c ∉ l → putF c l = l.take i ++ c :: l.drop i
  | [], i, h, hn => by have := h.le; simp at this; subst this; rfl
  | x :: r, 0, h, hn => by
    have := h.hi 0 (by simp) (Nat.le_refl _)
    simp at this hn
    have hlt : c < x := by have := hn.1; omega
    unfold putF
    rw [if_pos hlt]
    rfl
  | x :: r, i + 1, h, hn => by
    have := h.lo 0 (by simp) (by omega)
    simp at this hn
    unfold putF
    rw [if_neg (by omega), putF_spot (l := r) (i := i) ⟨by have := h.le; simp at this; omega, fun j hj hji => by have := h.lo (j + 1) (by simp; omega) (by omega); simpa using this, fun j hj hji => by have := h.hi (j + 1) (by simp; omega) (by omega); simpa using this⟩ hn.2]
    rfl
end Go.Proofs.Ytkeadpichlgagaa.Me
