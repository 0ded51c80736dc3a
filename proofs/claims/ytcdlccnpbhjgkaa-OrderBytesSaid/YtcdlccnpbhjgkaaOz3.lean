/- orders and reports as bytes: the references' values, and the way back, plain. -/
import Derived.Test.YtcdlccnpbhjgkaaOz2
namespace Go.Proofs.Ytcdlccnpbhjgkaa.Oo
open Go.RowKit Go.Maps Go.Proofs.YtcdlccnpbhjgkaaW.PrintWords Go.Proofs.YtcdlccnpbhjgkaaW.PrintLast Go.Proofs.YtcdlccnpbhjgkaaW.PrintMore
open Go.Proofs.Ytcdlccnpbhjgkaa.POrderBytes
set_option linter.unusedVariables false
set_option linter.unusedSimpArgs false

theorem rnum_val (n : Int) : Ev (fun k => echelonref19_number.f k n) (numB (uN n)) := by
  unfold echelonref19_number.f
  exact Ev.bind (refnumber_val (uN_range n).1 (uN_range n).2) (Ev.now _)
theorem w_succ {i : Nat} (h : i ≤ 1000) : wrap64 ((i : Int) + 1) = ((i + 1 : Nat) : Int) := by unfold wrap64; omega
/-- One number more. -/
def nx (n : Int) (F : Nat → List Int → Option (List Int)) : Nat → List Int → Option (List Int) := fun k xs => (echelonref19_number.f k n).bind fun t => if xs.length + t.length < 140737488355328 then F k (xs ++ t) else none
theorem nx_ev {n : Int} {xs r : List Int} {F : Nat → List Int → Option (List Int)} (hl : xs.length ≤ 100000) (h : Ev (fun k => F k (xs ++ numB (uN n))) r) : Ev (fun k => nx n F k xs) r := by
  unfold nx
  refine Ev.bind (rnum_val n) ?_
  have := numB_len (uN n)
  have hlt : xs.length + (numB (uN n)).length < 140737488355328 := by omega
  simp only [hlt, if_true]
  exact h
theorem fl (ns : List Int) : numsB ns = (ns.map fun n => numB (uN n)).flatten := rfl
theorem rB_l0 (os : List S82) (hl : os.length ≤ 100) : ∀ (d i : Nat) (xs : List Int), i + d = os.length → xs.length ≤ 10 + 36 * i → Ev (fun k => echelonref19_Bytes.l0 k os xs (i : Int)) (xs ++ ((os.drop i).map fun o => numsB (oN o)).flatten)
  | 0, i, xs, h, hx => by
    refine Ev.step (f := fun k => some xs) (fun k => ?_) ?_
    · conv => lhs; unfold echelonref19_Bytes.l0
      rw [if_neg (by omega)]
    · rw [List.drop_of_length_le (by omega)]
      simpa using Ev.now _
  | d + 1, i, xs, h, hx => by
    have hlt : i < os.length := by omega
    have hr : rd_T82 os (i : Int) = os[i] := by simp [rd_T82, hlt]
    have n0 := numB_len (uN os[i].f0)
    have n1 := numB_len (uN os[i].f1)
    have n2 := numB_len (uN os[i].f2)
    have n3 := numB_len (uN os[i].f3)
    have e : xs ++ ((os.drop i).map fun o => numsB (oN o)).flatten = (xs ++ numB (uN os[i].f0) ++ numB (uN os[i].f1) ++ numB (uN os[i].f2) ++ numB (uN os[i].f3)) ++ ((os.drop (i + 1)).map fun o => numsB (oN o)).flatten := by
      rw [List.drop_eq_getElem_cons hlt, List.map_cons, List.flatten_cons]
      have : numsB (oN os[i]) = numB (uN os[i].f0) ++ (numB (uN os[i].f1) ++ (numB (uN os[i].f2) ++ numB (uN os[i].f3))) := by simp [numsB, oN]
      rw [this]
      simp only [List.append_assoc]
    rw [e]
    have ih := rB_l0 os hl d (i + 1) (xs ++ numB (uN os[i].f0) ++ numB (uN os[i].f1) ++ numB (uN os[i].f2) ++ numB (uN os[i].f3)) (by omega) (by simp only [List.length_append]; omega)
    refine Ev.step (f := fun k => nx os[i].f0 (nx os[i].f1 (nx os[i].f2 (nx os[i].f3 fun k y => echelonref19_Bytes.l0 k os y ((i + 1 : Nat) : Int)))) k xs) (fun k => ?_) ?_
    · conv => lhs; unfold echelonref19_Bytes.l0
      rw [if_pos (by omega), if_pos (by omega), hr, w_succ (by omega)]
      rfl
    · refine nx_ev (by omega) (nx_ev ?_ (nx_ev ?_ (nx_ev ?_ ih))) <;> (simp only [List.length_append]; omega)
theorem rBytes_val (os : List S82) (hl : os.length ≤ 100) : Ev (fun k => echelonref19_Bytes.f k os) (formB 1 (os.map oN)) := by
  have hu : uN (os.length : Int) = (os.length : Int) := uN_id (by omega) (by omega)
  have hn := numB_len (uN (os.length : Int))
  refine Ev.congr (f := fun k => nx (os.length : Int) (fun k y => echelonref19_Bytes.l0 k os y 0) k [1]) (fun k => rfl) ?_
  refine nx_ev (by simp) ?_
  have h := rB_l0 os hl os.length 0 ([1] ++ numB (uN (os.length : Int))) (by omega) (by simp; omega)
  have e : formB 1 (os.map oN) = ([1] ++ numB (uN (os.length : Int))) ++ ((os.drop 0).map fun o => numsB (oN o)).flatten := by
    unfold formB
    rw [hu, List.drop_zero, List.length_map, List.map_map]
    rfl
  rw [e]
  exact h
theorem rR_l0 (os : List S99) (hl : os.length ≤ 100) : ∀ (d i : Nat) (xs : List Int), i + d = os.length → xs.length ≤ 10 + 54 * i → Ev (fun k => echelonref19_ReportBytes.l0 k os xs (i : Int)) (xs ++ ((os.drop i).map fun o => numsB (rN o)).flatten)
  | 0, i, xs, h, hx => by
    refine Ev.step (f := fun k => some xs) (fun k => ?_) ?_
    · conv => lhs; unfold echelonref19_ReportBytes.l0
      rw [if_neg (by omega)]
    · rw [List.drop_of_length_le (by omega)]
      simpa using Ev.now _
  | d + 1, i, xs, h, hx => by
    have hlt : i < os.length := by omega
    have hr : rd_T99 os (i : Int) = os[i] := by simp [rd_T99, hlt]
    have n0 := numB_len (uN os[i].f0)
    have n1 := numB_len (uN os[i].f1)
    have n2 := numB_len (uN os[i].f2)
    have n3 := numB_len (uN os[i].f3)
    have n4 := numB_len (uN os[i].f4)
    have n5 := numB_len (uN (if os[i].f5 then 1 else 0))
    have e : xs ++ ((os.drop i).map fun o => numsB (rN o)).flatten = (xs ++ numB (uN os[i].f0) ++ numB (uN os[i].f1) ++ numB (uN os[i].f2) ++ numB (uN os[i].f3) ++ numB (uN os[i].f4) ++ numB (uN (if os[i].f5 then 1 else 0))) ++ ((os.drop (i + 1)).map fun o => numsB (rN o)).flatten := by
      rw [List.drop_eq_getElem_cons hlt, List.map_cons, List.flatten_cons]
      have : numsB (rN os[i]) = numB (uN os[i].f0) ++ (numB (uN os[i].f1) ++ (numB (uN os[i].f2) ++ (numB (uN os[i].f3) ++ (numB (uN os[i].f4) ++ numB (uN (if os[i].f5 then 1 else 0)))))) := by simp [numsB, rN]
      rw [this]
      simp only [List.append_assoc]
    rw [e]
    have ih := rR_l0 os hl d (i + 1) (xs ++ numB (uN os[i].f0) ++ numB (uN os[i].f1) ++ numB (uN os[i].f2) ++ numB (uN os[i].f3) ++ numB (uN os[i].f4) ++ numB (uN (if os[i].f5 then 1 else 0))) (by omega) (by simp only [List.length_append]; omega)
    cases hg : os[i].f5 with
    | true =>
      rw [hg] at ih
      simp only [if_true] at ih
      refine Ev.step (f := fun k => nx os[i].f0 (nx os[i].f1 (nx os[i].f2 (nx os[i].f3 (nx os[i].f4 (nx 1 fun k y => echelonref19_ReportBytes.l0 k os y ((i + 1 : Nat) : Int)))))) k xs) (fun k => ?_) ?_
      · conv => lhs; unfold echelonref19_ReportBytes.l0
        rw [if_pos (by omega), if_pos (by omega), hr, w_succ (by omega), hg]
        rfl
      · refine nx_ev (by omega) (nx_ev ?_ (nx_ev ?_ (nx_ev ?_ (nx_ev ?_ (nx_ev ?_ ih))))) <;> (simp only [List.length_append]; omega)
    | false =>
      rw [hg] at ih
      simp only [Bool.false_eq_true, if_false] at ih
      refine Ev.step (f := fun k => nx os[i].f0 (nx os[i].f1 (nx os[i].f2 (nx os[i].f3 (nx os[i].f4 (nx 0 fun k y => echelonref19_ReportBytes.l0 k os y ((i + 1 : Nat) : Int)))))) k xs) (fun k => ?_) ?_
      · conv => lhs; unfold echelonref19_ReportBytes.l0
        rw [if_pos (by omega), if_pos (by omega), hr, w_succ (by omega), hg]
        rfl
      · refine nx_ev (by omega) (nx_ev ?_ (nx_ev ?_ (nx_ev ?_ (nx_ev ?_ (nx_ev ?_ ih))))) <;> (simp only [List.length_append]; omega)
theorem rReportBytes_val (os : List S99) (hl : os.length ≤ 100) : Ev (fun k => echelonref19_ReportBytes.f k os) (formB 2 (os.map rN)) := by
  have hu : uN (os.length : Int) = (os.length : Int) := uN_id (by omega) (by omega)
  have hn := numB_len (uN (os.length : Int))
  refine Ev.congr (f := fun k => nx (os.length : Int) (fun k y => echelonref19_ReportBytes.l0 k os y 0) k [2]) (fun k => rfl) ?_
  refine nx_ev (by simp) ?_
  have h := rR_l0 os hl os.length 0 ([2] ++ numB (uN (os.length : Int))) (by omega) (by simp; omega)
  have e : formB 2 (os.map rN) = ([2] ++ numB (uN (os.length : Int))) ++ ((os.drop 0).map fun o => numsB (rN o)).flatten := by
    unfold formB
    rw [hu, List.drop_zero, List.length_map, List.map_map]
    rfl
  rw [e]
  exact h
/-! the way back -/
theorem takeO_form {l : List UInt8} {j : Nat} (hp : parseF l = some (kRows j)) (hj : 0 < j) (tag : Int) {nss : List (List Int)} (h : ∀ ns ∈ nss, ns.length = j) (hl : nss.length < 1000000) :
    takeO l tag (formB tag nss) = if nss.any (fun ns => ns.any fun n => decide (1099511627776 ≤ uN n)) then ([], 13) else (nss.map fun ns => ns.map uN, 0) := by
  have ht : takeTop l (numB nss.length ++ (nss.map numsB).flatten) = (⟨0, [], nss.map rowV⟩, 0) := by
    unfold takeTop
    rw [hp]
    simp only
    rw [take_rows hj h hl]
    simp
  unfold takeO formB
  simp only
  rw [if_neg (by simp), ht]
  simp only
  rw [if_neg (by simp)]
  have hb : bigV ⟨0, [], nss.map rowV⟩ = nss.any (fun ns => ns.any fun n => decide (1099511627776 ≤ uN n)) := by
    unfold bigV
    simp only [List.any_map]
    congr 1
    funext ns
    simp only [Function.comp_apply, rowV, List.any_map]
    rfl
  have hn : numsOf ⟨0, [], nss.map rowV⟩ = nss.map fun ns => ns.map uN := by
    unfold numsOf
    simp only [List.map_map]
    congr 1
    funext ns
    simp only [Function.comp_apply, rowV, List.map_map]
    rfl
  rw [hb, hn]
def I64 (n : Int) : Prop := -9223372036854775808 ≤ n ∧ n ≤ 9223372036854775807
def inR (n : Int) : Bool := decide (0 ≤ n ∧ n < 1099511627776)
theorem inR_big {n : Int} (h : I64 n) : decide (1099511627776 ≤ uN n) = !inR n := by
  have := uN_small h.1 h.2
  unfold inR
  rw [Bool.eq_iff_iff, Bool.not_eq_true', decide_eq_true_iff, decide_eq_false_iff_not, ← this]
  omega
theorem uN_in {n : Int} (h : inR n = true) : uN n = n := by
  unfold inR at h
  rw [decide_eq_true_iff] at h
  exact uN_id (by omega) (by omega)
/-- Is it an order? -/
def okO (o : S82) : Bool := decide (0 < o.f0) && inR o.f0 && inR o.f1 && inR o.f2 && inR o.f3
def Wf82 (o : S82) : Prop := I64 o.f0 ∧ I64 o.f1 ∧ I64 o.f2 ∧ I64 o.f3
theorem rRight_val (a b c d : Int) : echelonref19_Right.f a b c d = some (okO ⟨a, b, c, d⟩) := by
  unfold echelonref19_Right.f okO inR
  simp only
  by_cases h1 : a > 0
  · rw [if_pos h1]
    by_cases h2 : b ≥ 0
    · rw [if_pos h2]
      by_cases h3 : c ≥ 0
      · rw [if_pos h3]
        by_cases h4 : d ≥ 0
        · rw [if_pos h4]
          by_cases h5 : a < 1099511627776
          · rw [if_pos h5]
            by_cases h6 : b < 1099511627776
            · rw [if_pos h6]
              by_cases h7 : c < 1099511627776
              · rw [if_pos h7]
                congr 1
                rw [decide_eq_true (show 0 < a from h1), decide_eq_true (show 0 ≤ a ∧ a < 1099511627776 by omega), decide_eq_true (show 0 ≤ b ∧ b < 1099511627776 by omega), decide_eq_true (show 0 ≤ c ∧ c < 1099511627776 by omega)]
                simp only [Bool.true_and]
                rw [Bool.eq_iff_iff, decide_eq_true_iff, decide_eq_true_iff]
                omega
              · rw [if_neg h7, decide_eq_false (show ¬ (0 ≤ c ∧ c < 1099511627776) by omega)]; simp
            · rw [if_neg h6, decide_eq_false (show ¬ (0 ≤ b ∧ b < 1099511627776) by omega)]; simp
          · rw [if_neg h5, decide_eq_false (show ¬ (0 ≤ a ∧ a < 1099511627776) by omega)]; simp
        · rw [if_neg h4, decide_eq_false (show ¬ (0 ≤ d ∧ d < 1099511627776) by omega)]; simp
      · rw [if_neg h3, decide_eq_false (show ¬ (0 ≤ c ∧ c < 1099511627776) by omega)]; simp
    · rw [if_neg h2, decide_eq_false (show ¬ (0 ≤ b ∧ b < 1099511627776) by omega)]; simp
  · rw [if_neg h1, decide_eq_false (show ¬ 0 < a by omega)]; simp
theorem any_or {α : Type} (p q : α → Bool) : ∀ l : List α, l.any (fun x => p x || q x) = (l.any p || l.any q)
  | [] => by simp
  | x :: l => by
    simp only [List.any_cons]
    rw [any_or p q l]
    cases p x <;> cases q x <;> cases l.any p <;> cases l.any q <;> rfl
theorem all_not {α : Type} (p : α → Bool) (l : List α) : l.all p = !(l.any fun x => !p x) := by
  rw [List.not_any_eq_all_not]
  simp
theorem parseP_form (os : List S82) (hl : os.length < 1000000) (hw : ∀ o ∈ os, Wf82 o) : parseP (formB 1 (os.map oN)) = if os.all okO then (os, 0) else ([], 13) := by
  have hj : ∀ ns ∈ os.map oN, ns.length = 4 := fun ns hns => by obtain ⟨o, _, rfl⟩ := List.mem_map.1 hns; rfl
  have ht := takeO_form p_4 (by decide) 1 hj (by simpa using hl)
  have hb : (os.map oN).any (fun ns => ns.any fun n => decide (1099511627776 ≤ uN n)) = os.any (fun o => !(inR o.f0 && inR o.f1 && inR o.f2 && inR o.f3)) := by
    rw [List.any_map]
    apply Bool.eq_iff_iff.2
    rw [List.any_eq_true, List.any_eq_true]
    have key : ∀ o ∈ os, ((fun ns : List Int => ns.any fun n => decide (1099511627776 ≤ uN n)) ∘ oN) o = !(inR o.f0 && inR o.f1 && inR o.f2 && inR o.f3) := fun o ho => by
      obtain ⟨a, b, c, d⟩ := hw o ho
      simp only [Function.comp_apply, oN, List.any_cons, List.any_nil, inR_big a, inR_big b, inR_big c, inR_big d]
      cases inR o.f0 <;> cases inR o.f1 <;> cases inR o.f2 <;> cases inR o.f3 <;> rfl
    constructor
    · rintro ⟨o, ho, h⟩; exact ⟨o, ho, by rw [← key o ho]; exact h⟩
    · rintro ⟨o, ho, h⟩; exact ⟨o, ho, by rw [key o ho]; exact h⟩
  unfold parseP
  rw [ht, hb]
  by_cases h1 : os.any (fun o => !(inR o.f0 && inR o.f1 && inR o.f2 && inR o.f3)) = true
  · rw [if_pos h1]
    simp only
    rw [if_pos (by decide), if_neg]
    rw [List.any_eq_true] at h1
    obtain ⟨o, ho, h⟩ := h1
    intro ha
    have := List.all_eq_true.1 ha o ho
    unfold okO at this
    simp only [Bool.and_eq_true] at this
    obtain ⟨⟨⟨⟨_, a⟩, b⟩, c⟩, d⟩ := this
    rw [a, b, c, d] at h
    simp at h
  · rw [if_neg h1]
    simp only
    rw [if_neg (by decide)]
    have hin : ∀ o ∈ os, inR o.f0 = true ∧ inR o.f1 = true ∧ inR o.f2 = true ∧ inR o.f3 = true := fun o ho => by
      by_cases hc : (inR o.f0 && inR o.f1 && inR o.f2 && inR o.f3) = true
      · simp only [Bool.and_eq_true] at hc
        exact ⟨hc.1.1.1, hc.1.1.2, hc.1.2, hc.2⟩
      · exact absurd (List.any_eq_true.2 ⟨o, ho, by rw [Bool.not_eq_true] at hc; rw [hc]; rfl⟩) h1
    have hm : (os.map oN).map (fun ns => ns.map uN) = os.map oN := by
      rw [List.map_map]
      apply List.map_congr_left
      intro o ho
      obtain ⟨a, b, c, d⟩ := hin o ho
      simp [oN, uN_in a, uN_in b, uN_in c, uN_in d]
    rw [hm]
    have hz : (os.map oN).any bad82 = os.any (fun o => o.f0 == 0) := by
      rw [List.any_map]
      rfl
    have hmk : (os.map oN).map mk82 = os := by
      rw [List.map_map]
      conv => rhs; rw [← List.map_id os]
      apply List.map_congr_left
      intro o _
      rfl
    rw [hz, hmk]
    have he : os.any (fun o => o.f0 == 0) = !os.all okO := by
      rw [all_not, Bool.not_not]
      apply Bool.eq_iff_iff.2
      rw [List.any_eq_true, List.any_eq_true]
      have key : ∀ o ∈ os, (o.f0 == 0) = !okO o := fun o ho => by
        obtain ⟨a, b, c, d⟩ := hin o ho
        unfold okO
        rw [a, b, c, d]
        unfold inR at a
        rw [decide_eq_true_iff] at a
        simp
        rw [Bool.eq_iff_iff]
        simp
        omega
      constructor
      · rintro ⟨o, ho, h⟩; exact ⟨o, ho, by rw [← key o ho]; exact h⟩
      · rintro ⟨o, ho, h⟩; exact ⟨o, ho, by rw [key o ho]; exact h⟩
    rw [he]
    cases os.all okO <;> rfl
end Go.Proofs.Ytcdlccnpbhjgkaa.Oo

/- reports as bytes: the way back; lists compared; plain. -/
namespace Go.Proofs.Ytcdlccnpbhjgkaa.Oo
open Go.RowKit Go.Maps Go.Proofs.YtcdlccnpbhjgkaaW.PrintWords Go.Proofs.YtcdlccnpbhjgkaaW.PrintLast Go.Proofs.YtcdlccnpbhjgkaaW.PrintMore
open Go.Proofs.Ytcdlccnpbhjgkaa.POrderBytes
set_option linter.unusedVariables false
set_option linter.unusedSimpArgs false

def okR (r : S99) : Bool := okO ⟨1, r.f0, r.f1, r.f2⟩ && okO ⟨1, r.f3, r.f4, 0⟩
def Wf99 (o : S99) : Prop := I64 o.f0 ∧ I64 o.f1 ∧ I64 o.f2 ∧ I64 o.f3 ∧ I64 o.f4
theorem okR_eq (r : S99) : okR r = (inR r.f0 && inR r.f1 && inR r.f2 && inR r.f3 && inR r.f4) := by
  have h1 : inR 1 = true := by rfl
  have h0 : inR 0 = true := by rfl
  have hd : decide ((0 : Int) < 1) = true := by rfl
  unfold okR okO
  simp only [h1, h0, hd, Bool.true_and, Bool.and_true]
  cases inR r.f0 <;> cases inR r.f1 <;> cases inR r.f2 <;> cases inR r.f3 <;> cases inR r.f4 <;> rfl
theorem rRightReport_val (r : S99) : echelonref19_RightReport.f r.f0 r.f1 r.f2 r.f3 r.f4 r.f5 = some (okR r) := by
  unfold echelonref19_RightReport.f okR
  rw [rRight_val, rRight_val]
  simp only [Option.bind_some]
  cases okO ⟨1, r.f0, r.f1, r.f2⟩ <;> rfl
theorem parseR_form (os : List S99) (hl : os.length < 1000000) (hw : ∀ o ∈ os, Wf99 o) : parseR (formB 2 (os.map rN)) = if os.all okR then (os, 0) else ([], 13) := by
  have hj : ∀ ns ∈ os.map rN, ns.length = 6 := fun ns hns => by obtain ⟨o, _, rfl⟩ := List.mem_map.1 hns; rfl
  have ht := takeO_form p_6 (by decide) 2 hj (by simpa using hl)
  have hbit : ∀ b : Bool, decide (1099511627776 ≤ uN (if b then 1 else 0)) = false := fun b => by cases b <;> rfl
  have hb : (os.map rN).any (fun ns => ns.any fun n => decide (1099511627776 ≤ uN n)) = !os.all okR := by
    rw [List.any_map, all_not, Bool.not_not]
    apply Bool.eq_iff_iff.2
    rw [List.any_eq_true, List.any_eq_true]
    have key : ∀ o ∈ os, ((fun ns : List Int => ns.any fun n => decide (1099511627776 ≤ uN n)) ∘ rN) o = !okR o := fun o ho => by
      obtain ⟨a, b, c, d, e⟩ := hw o ho
      rw [okR_eq]
      simp only [Function.comp_apply, rN, List.any_cons, List.any_nil, inR_big a, inR_big b, inR_big c, inR_big d, inR_big e, hbit]
      cases inR o.f0 <;> cases inR o.f1 <;> cases inR o.f2 <;> cases inR o.f3 <;> cases inR o.f4 <;> rfl
    constructor
    · rintro ⟨o, ho, h⟩; exact ⟨o, ho, by rw [← key o ho]; exact h⟩
    · rintro ⟨o, ho, h⟩; exact ⟨o, ho, by rw [key o ho]; exact h⟩
  unfold parseR
  rw [ht, hb]
  cases hall : os.all okR with
  | false => rfl
  | true =>
    simp only [Bool.not_true, Bool.false_eq_true, if_false]
    rw [if_neg (by decide)]
    have hin : ∀ o ∈ os, inR o.f0 = true ∧ inR o.f1 = true ∧ inR o.f2 = true ∧ inR o.f3 = true ∧ inR o.f4 = true := fun o ho => by
      have h := List.all_eq_true.1 hall o ho
      rw [okR_eq] at h
      simp only [Bool.and_eq_true] at h
      exact ⟨h.1.1.1.1, h.1.1.1.2, h.1.1.2, h.1.2, h.2⟩
    have hub : ∀ b : Bool, uN (if b then 1 else 0) = (if b then 1 else 0) := fun b => by cases b <;> rfl
    have hm : (os.map rN).map (fun ns => ns.map uN) = os.map rN := by
      rw [List.map_map]
      apply List.map_congr_left
      intro o ho
      obtain ⟨a, b, c, d, e⟩ := hin o ho
      simp only [Function.comp_apply, rN, List.map_cons, List.map_nil, uN_in a, uN_in b, uN_in c, uN_in d, uN_in e, hub]
    rw [hm]
    have hz : (os.map rN).any bad99 = false := by
      rw [List.any_map, List.any_eq_false]
      intro o _
      have h1 : ∀ b : Bool, decide (1 < (if b then (1 : Int) else 0)) = false := fun b => by cases b <;> rfl
      show ¬ decide (1 < (if o.f5 = true then (1 : Int) else 0)) = true
      rw [h1]
      simp
    have hmk : (os.map rN).map mk99 = os := by
      rw [List.map_map]
      conv => rhs; rw [← List.map_id os]
      apply List.map_congr_left
      intro o _
      obtain ⟨a, b, c, d, e, f⟩ := o
      cases f <;> rfl
    rw [hz, hmk]
    rfl
theorem orders_same (os : List S82) (hl : os.length ≤ 1000) : Ev (fun k => echelonlaw19_orders.f k os os) true := by
  have main : ∀ (d i : Nat), i + d = os.length → Ev (fun k => echelonlaw19_orders.l0 k os os (i : Int)) true := by
    intro d
    induction d with
    | zero =>
      intro i h
      refine Ev.step (f := fun k => some true) (fun k => ?_) (Ev.now _)
      conv => lhs; unfold echelonlaw19_orders.l0
      rw [if_neg (by omega)]
    | succ d ih =>
      intro i h
      refine Ev.step (f := fun k => echelonlaw19_orders.l0 k os os ((i + 1 : Nat) : Int)) (fun k => ?_) (ih (i + 1) (by omega))
      conv => lhs; unfold echelonlaw19_orders.l0
      rw [if_pos (by omega), if_pos (by omega), if_pos (by omega), if_neg (by simp), w_succ (by omega)]
  refine Ev.congr (f := fun k => echelonlaw19_orders.l0 k os os ((0 : Nat) : Int)) (fun k => ?_) (main os.length 0 (by omega))
  unfold echelonlaw19_orders.f
  rw [if_pos rfl]
  rfl
theorem reports_same (os : List S99) (hl : os.length ≤ 1000) : Ev (fun k => echelonlaw19_reports.f k os os) true := by
  have main : ∀ (d i : Nat), i + d = os.length → Ev (fun k => echelonlaw19_reports.l0 k os os (i : Int)) true := by
    intro d
    induction d with
    | zero =>
      intro i h
      refine Ev.step (f := fun k => some true) (fun k => ?_) (Ev.now _)
      conv => lhs; unfold echelonlaw19_reports.l0
      rw [if_neg (by omega)]
    | succ d ih =>
      intro i h
      refine Ev.step (f := fun k => echelonlaw19_reports.l0 k os os ((i + 1 : Nat) : Int)) (fun k => ?_) (ih (i + 1) (by omega))
      conv => lhs; unfold echelonlaw19_reports.l0
      rw [if_pos (by omega), if_pos (by omega), if_pos (by omega), if_neg (by simp), w_succ (by omega)]
  refine Ev.congr (f := fun k => echelonlaw19_reports.l0 k os os ((0 : Nat) : Int)) (fun k => ?_) (main os.length 0 (by omega))
  unfold echelonlaw19_reports.f
  rw [if_pos rfl]
  rfl
theorem form_byt (tag : Int) (h : 0 ≤ tag ∧ tag ≤ 255) (nss : List (List Int)) : Byt (formB tag nss) := fun x hx => by
  unfold formB at hx
  rcases List.mem_cons.1 hx with rfl | hx
  · exact h
  · rcases List.mem_append.1 hx with hx | hx
    · exact numB_byt _ x hx
    · obtain ⟨l, hl, hx⟩ := List.mem_flatten.1 hx
      obtain ⟨ns, _, rfl⟩ := List.mem_map.1 hl
      unfold numsB at hx
      obtain ⟨l2, hl2, hx⟩ := List.mem_flatten.1 hx
      obtain ⟨n, _, rfl⟩ := List.mem_map.1 hl2
      exact numB_byt _ x hx
theorem form_len (tag : Int) {nss : List (List Int)} {j : Nat} (hj : ∀ ns ∈ nss, ns.length = j) (hj10 : j ≤ 10) (hn : nss.length ≤ 100) : (formB tag nss).length ≤ 10000 := by
  have hf := (flat_len hj).1
  have hnb := numB_len (nss.length : Int)
  have h9 := nine hj10 hn
  unfold formB
  simp only [List.length_cons, List.length_append]
  omega
end Go.Proofs.Ytcdlccnpbhjgkaa.Oo
