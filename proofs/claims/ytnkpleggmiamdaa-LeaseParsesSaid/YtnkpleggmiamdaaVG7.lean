/- Kept of the text LeF: what is reached (wip/tools/prune.py). -/
import Derived.Test.YtnkpleggmiamdaaVLeE
import Derived.Test.YtnkpleggmiamdaaVG6
namespace Go.Proofs.Ytnkpleggmiamdaa.Le
open Go.RowKit Go.Maps Go.Proofs.YtnkpleggmiamdaaW.PrintWords
open Go.Proofs.Ytnkpleggmiamdaa.Mp
open Go.Proofs.Ytnkpleggmiamdaa.Ke (asc)
set_option linter.unusedVariables false
set_option linter.unusedSimpArgs false
end Go.Proofs.Ytnkpleggmiamdaa.Le

/- Kept of the text LeG: what is reached (wip/tools/prune.py). -/
namespace Go.Proofs.Ytnkpleggmiamdaa.Le
open Go.RowKit Go.Maps Go.Proofs.YtnkpleggmiamdaaW.PrintWords Go.Proofs.YtnkpleggmiamdaaW.PrintLast Go.Proofs.YtnkpleggmiamdaaW.PrintMore
open Go.Proofs.Ytnkpleggmiamdaa.PLeaseFull Go.Proofs.Ytnkpleggmiamdaa.Mp
set_option linter.unusedVariables false
set_option linter.unusedSimpArgs false
end Go.Proofs.Ytnkpleggmiamdaa.Le

/- Kept of the text LeI: what is reached (wip/tools/prune.py). -/
namespace Go.Proofs.Ytnkpleggmiamdaa.Le
open Go.RowKit Go.Maps Go.Proofs.YtnkpleggmiamdaaW.PrintWords
open Go.Proofs.Ytnkpleggmiamdaa.Mp
set_option linter.unusedVariables false
set_option linter.unusedSimpArgs false
end Go.Proofs.Ytnkpleggmiamdaa.Le

/- Kept of the text LpA: what is reached (wip/tools/prune.py). -/
namespace Go.Proofs.Ytnkpleggmiamdaa.Lp
open Go.RowKit Go.Maps Go.Proofs.YtnkpleggmiamdaaW.PrintWords Go.Proofs.YtnkpleggmiamdaaW.PrintLast Go.Proofs.YtnkpleggmiamdaaW.PrintMore
open Go.Proofs.Ytnkpleggmiamdaa.PSessionParses (S105 z105 k105 rd_T105 at_T105)
open Go.Proofs.Ytnkpleggmiamdaa.Mo Go.Proofs.Ytnkpleggmiamdaa.Mp Go.Proofs.Ytnkpleggmiamdaa.Ke
set_option linter.unusedVariables false
set_option linter.unusedSimpArgs false
def shL : List UInt8 := [91, 110, 42, 91, 110, 110, 93, 93]
def kLe : Sh := .mk 91 [.mk 110 [], .mk 42 [.mk 91 [.mk 110 [], .mk 110 []]]]
theorem p_le : parseF shL = some kLe := by rfl
theorem gd_le : Gd kLe := .row (fun k hk => by
  simp only [List.mem_cons, List.not_mem_nil, or_false] at hk
  rcases hk with rfl | rfl
  · exact .num
  · exact .lst (.row (fun k hk => by
      simp only [List.mem_cons, List.not_mem_nil, or_false] at hk
      rcases hk with rfl | rfl <;> exact .num)))
theorem ren_le : ren kLe = shL := by decide +kernel
theorem dep_le : dep kLe ≤ 9 := by decide +kernel
def fst (v : S105) : S105 := v.f2.getD 0 z105
def snd (v : S105) : S105 := v.f2.getD 1 z105
def pr (x : S105) : Int × Int := ((fst x).f0, (snd x).f0)
def prs (b : S105) : List (Int × Int) := b.f2.map pr
structure Rows (v a b : S105) : Prop where
  two : v.f2 = [a, b]
  row : ∀ x ∈ b.f2, ∃ c o, x.f2 = [c, o]
theorem has_le {v : S105} (h : hasS kLe v = true) : ∃ a b, Rows v a b := by
  unfold kLe at h
  rw [Mo.has_eq, if_neg (by decide), if_pos rfl, Bool.and_eq_true] at h
  obtain ⟨h1, h2⟩ := h
  have h1 := of_decide_eq_true h1
  match hv : v.f2, h1 with
  | [a, b], _ =>
    rw [hv] at h2
    refine ⟨a, b, hv, fun x hx => ?_⟩
    simp only [hasL, Bool.and_eq_true] at h2
    have h3 := h2.2.1
    rw [Mo.has_eq, if_pos rfl, hasA_cons, List.all_eq_true] at h3
    have h4 := h3 x hx
    rw [Mo.has_eq, if_neg (by decide), if_pos rfl, Bool.and_eq_true] at h4
    have h5 := of_decide_eq_true h4.1
    match hxf : x.f2, h5 with
    | [c, o], _ => exact ⟨c, o, rfl⟩
def rowB (p : Int × Int) : List Int := numB p.1 ++ numB p.2
def formL (bud : Int) (rows : List (Int × Int)) : List Int := numB bud ++ (numB rows.length ++ (rows.map rowB).flatten)
theorem put_two (c o x : S105) (e : x.f2 = [c, o]) : putS (.mk 91 [.mk 110 [], .mk 110 []]) x = numB c.f0 ++ numB o.f0 := by
  rw [put_eq, if_neg (by decide), if_neg (by decide), if_neg (by decide), e]
  simp only [putL, put_eq, if_true, List.append_nil]
theorem put_le {v a b : S105} (h : Rows v a b) : putS kLe v = formL a.f0 (prs b) := by
  unfold kLe formL
  rw [put_eq, if_neg (by decide), if_neg (by decide), if_neg (by decide), h.two]
  simp only [putL, List.append_nil]
  rw [put_eq, if_pos rfl, put_eq, if_neg (by decide), if_neg (by decide), if_pos rfl, putA_cons]
  congr 2
  · simp [prs]
  · congr 1
    unfold prs
    rw [List.map_map]
    apply List.map_congr_left
    intro x hx
    obtain ⟨c, o, e⟩ := h.row x hx
    rw [put_two c o x e]
    simp [rowB, pr, fst, snd, e]
def valL (bud : Int) (rows : List (Int × Int)) : S105 := ⟨0, [], [numV bud, ⟨0, [], rows.map fun p => rowV [p.1, p.2]⟩]⟩
theorem val_rows (bud : Int) (rows : List (Int × Int)) : Rows (valL bud rows) (numV bud) ⟨0, [], rows.map fun p => rowV [p.1, p.2]⟩ :=
  ⟨rfl, fun x hx => by obtain ⟨p, _, rfl⟩ := List.mem_map.1 hx; exact ⟨_, _, rfl⟩⟩
theorem put_val {bud : Int} {rows : List (Int × Int)} (hb : 0 ≤ bud ∧ bud ≤ 65535) (hr : ∀ p ∈ rows, Le.rightB p.1 p.2 = true) : putS kLe (valL bud rows) = formL bud rows := by
  rw [put_le (val_rows bud rows)]
  have e1 : (numV bud).f0 = bud := uN_id hb.1 (by omega)
  have e2 : prs ⟨0, [], rows.map fun p => rowV [p.1, p.2]⟩ = rows := by
    unfold prs
    rw [List.map_map]
    conv => rhs; rw [← List.map_id rows]
    apply List.map_congr_left
    intro p hp
    have := of_decide_eq_true (hr p hp)
    show ((numV p.1).f0, (numV p.2).f0) = p
    have e3 : (numV p.1).f0 = p.1 := uN_id (by omega) (by omega)
    have e4 : (numV p.2).f0 = p.2 := uN_id (by omega) (by omega)
    rw [e3, e4]
  rw [e1, e2]
theorem has_val (bud : Int) (rows : List (Int × Int)) : hasS kLe (valL bud rows) = true := by
  unfold kLe
  rw [Mo.has_eq, if_neg (by decide), if_pos rfl, Bool.and_eq_true]
  refine ⟨by simp [valL], ?_⟩
  simp only [valL, hasL, Bool.and_eq_true]
  refine ⟨by rw [Mo.has_eq, if_neg (by decide), if_neg (by decide)], ?_, trivial⟩
  rw [Mo.has_eq, if_pos rfl, hasA_cons, List.all_eq_true]
  intro x hx
  obtain ⟨p, _, rfl⟩ := List.mem_map.1 hx
  rw [Mo.has_eq, if_neg (by decide), if_pos rfl, Bool.and_eq_true]
  refine ⟨by simp [rowV], ?_⟩
  simp only [rowV, List.map_cons, List.map_nil, hasL, Bool.and_eq_true]
  exact ⟨by rw [Mo.has_eq, if_neg (by decide), if_neg (by decide)], by rw [Mo.has_eq, if_neg (by decide), if_neg (by decide)], trivial⟩
theorem wf_val (bud : Int) (rows : List (Int × Int)) : WfS (valL bud rows) := .mk (by show (0 : Int) ≤ 0; decide) (by show (0 : Int) < _; decide) (fun x hx => by
  simp only [valL, List.mem_cons, List.not_mem_nil, or_false] at hx
  rcases hx with rfl | rfl
  · exact wf_num bud
  · exact .mk (by show (0 : Int) ≤ 0; decide) (by show (0 : Int) < _; decide) (fun x hx => by
      obtain ⟨p, _, rfl⟩ := List.mem_map.1 hx
      exact wf_row _))
def goodF : Int → List (Int × Int) → Bool
  | _, [] => true
  | l, p :: r => (Le.rightB p.1 p.2 && decide (l < p.1)) && goodF p.1 r
def parseL (bs : List Int) : Option (Int × List (Int × Int)) × Int :=
  if (takeTop shL bs).2 ≠ 0 then (none, (takeTop shL bs).2)
  else if ¬ (1 ≤ (fst (takeTop shL bs).1).f0 ∧ (fst (takeTop shL bs).1).f0 ≤ 65535) ∨ (fst (takeTop shL bs).1).f0 < (prs (snd (takeTop shL bs).1)).length then (none, 13)
  else if goodF (-1) (prs (snd (takeTop shL bs).1)) then (some ((fst (takeTop shL bs).1).f0, prs (snd (takeTop shL bs).1)), 0) else (none, 13)
theorem top_le {bs : List Int} (hx : Byt bs) {v : S105} (h : takeTop shL bs = (v, 0)) : (∃ a b, Rows v a b) ∧ bs = putS kLe v ∧ WfS v ∧ takeS kLe bs 0 = (v, [], 0) := by
  unfold takeTop at h
  rw [p_le] at h
  simp only at h
  by_cases he : (takeS kLe bs 0).2.2 = 0
  · rw [if_pos he] at h
    by_cases hr : (takeS kLe bs 0).2.1 = []
    · rw [if_pos hr] at h
      have h2 : takeS kLe bs 0 = (v, [], 0) := Prod.ext (Prod.mk.inj h).1 (Prod.ext hr he)
      obtain ⟨hc, hh⟩ := take_can kLe gd_le _ _ _ hx h2
      have hw := take_wf kLe bs 0 hx
      rw [h2] at hw
      rw [List.append_nil] at hc
      exact ⟨has_le hh, hc, hw, h2⟩
    · rw [if_neg hr] at h; simp at h
  · rw [if_neg he] at h
    exact absurd (congrArg Prod.snd h) he
theorem wf_in {x : S105} (h : WfS x) {y : S105} (hy : y ∈ x.f2) : WfS y := by
  cases h with
  | mk _ _ hk => exact hk y hy
theorem wf_u {x : S105} (h : WfS x) : 0 ≤ x.f0 ∧ x.f0 < 18446744073709551616 := by
  cases h with
  | mk h0 h1 _ => exact ⟨h0, h1⟩
theorem goodF_right : ∀ {l : Int} {rows : List (Int × Int)}, goodF l rows = true → ∀ p ∈ rows, Le.rightB p.1 p.2 = true
  | _, [], _, p, hp => by cases hp
  | l, q :: r, h, p, hp => by
    simp only [goodF, Bool.and_eq_true] at h
    rcases List.mem_cons.1 hp with rfl | hp
    · exact h.1.1
    · exact goodF_right h.2 p hp
theorem goodF_keys : ∀ {l : Int} {rows : List (Int × Int)}, goodF l rows = true → (∀ p ∈ rows, l < p.1) ∧ (rows.map (·.1)).Pairwise (fun a b => a < b)
  | _, [], _ => ⟨fun p hp => (by cases hp), List.Pairwise.nil⟩
  | l, q :: r, h => by
    simp only [goodF, Bool.and_eq_true, decide_eq_true_eq] at h
    obtain ⟨i1, i2⟩ := goodF_keys h.2
    refine ⟨fun p hp => ?_, List.pairwise_cons.2 ⟨fun x hx => ?_, i2⟩⟩
    · rcases List.mem_cons.1 hp with rfl | hp
      · exact h.1.2
      · exact Int.lt_trans h.1.2 (i1 p hp)
    · obtain ⟨p, hp, rfl⟩ := List.mem_map.1 hx
      exact i1 p hp
def lastK : Int → List (Int × Int) → Int
  | l, [] => l
  | _, q :: r => lastK q.1 r
theorem goodF_split : ∀ (l : Int) (r s : List (Int × Int)), goodF l (r ++ s) = (goodF l r && goodF (lastK l r) s)
  | l, [], s => by simp [goodF, lastK]
  | l, q :: r, s => by
    rw [List.cons_append]
    simp only [goodF, lastK]
    rw [goodF_split q.1 r s, Bool.and_assoc, Bool.and_assoc, Bool.and_assoc]
theorem lastK_snoc : ∀ (l : Int) (r : List (Int × Int)) (p : Int × Int), lastK l (r ++ [p]) = p.1
  | _, [], _ => rfl
  | _, q :: r, p => lastK_snoc q.1 r p
theorem parse_some {bs : List Int} (hx : Byt bs) {bud : Int} {rows : List (Int × Int)} {e : Int} (h : parseL bs = (some (bud, rows), e)) : e = 0 ∧ formL bud rows = bs ∧ 1 ≤ bud ∧ bud ≤ 65535 ∧ (rows.length : Int) ≤ bud ∧ goodF (-1) rows = true := by
  unfold parseL at h
  by_cases h1 : (takeTop shL bs).2 = 0
  · rw [if_neg (by omega)] at h
    obtain ⟨⟨a, b, hr⟩, hp, _⟩ := top_le hx (v := (takeTop shL bs).1) (Prod.ext rfl h1)
    split at h
    · cases h
    · next h2 =>
      split at h
      · next h3 =>
        cases h
        rw [put_le hr] at hp
        have ea : fst (takeTop shL bs).1 = a := by simp [fst, hr.two]
        have eb : snd (takeTop shL bs).1 = b := by simp [snd, hr.two]
        simp only [ea, eb] at h2 h3 ⊢
        exact ⟨trivial, hp.symm, by omega, by omega, by omega, h3⟩
      · cases h
  · rw [if_pos h1] at h; cases h
end Go.Proofs.Ytnkpleggmiamdaa.Lp
