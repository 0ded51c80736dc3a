/- Kept of the text SpA: what is reached (wip/tools/prune.py). -/
import Derived.Test.YtnkpleggmiamdaaVMzA
import Derived.Test.YtnkpleggmiamdaaVSeA
namespace Go.Proofs.Ytnkpleggmiamdaa.Sp
open Go.RowKit Go.Maps Go.Proofs.YtnkpleggmiamdaaW.PrintWords Go.Proofs.YtnkpleggmiamdaaW.PrintLast Go.Proofs.YtnkpleggmiamdaaW.PrintMore
open Go.Proofs.Ytnkpleggmiamdaa.PSessionParses (S105 z105 k105 rd_T105 at_T105)
open Go.Proofs.Ytnkpleggmiamdaa.Mo Go.Proofs.Ytnkpleggmiamdaa.Mp
open Go.Proofs.Ytnkpleggmiamdaa.Se (rightF)
set_option linter.unusedVariables false
set_option linter.unusedSimpArgs false
abbrev Tr := Int × (Int × List Int)
def shS : List UInt8 := [42, 91, 110, 110, 98, 93]
def kRo : Sh := .mk 91 [.mk 110 [], .mk 110 [], .mk 98 []]
def kSe : Sh := .mk 42 [kRo]
theorem p_se : parseF shS = some kSe := by rfl
theorem gd_se : Gd kSe := .lst (.row (fun k hk => by
  simp only [List.mem_cons, List.not_mem_nil, or_false] at hk
  rcases hk with rfl | rfl | rfl
  · exact .num
  · exact .num
  · exact .byt))
theorem ren_se : ren kSe = shS := by decide +kernel
theorem dep_se : dep kSe ≤ 9 := by decide +kernel
def e0 (v : S105) : S105 := v.f2.getD 0 z105
def e1 (v : S105) : S105 := v.f2.getD 1 z105
def e2 (v : S105) : S105 := v.f2.getD 2 z105
def tr (x : S105) : Tr := ((e0 x).f0, (e1 x).f0, (e2 x).f1)
def trs (v : S105) : List Tr := v.f2.map tr
def Rows (v : S105) : Prop := ∀ x ∈ v.f2, ∃ c o b, x.f2 = [c, o, b]
theorem has_se {v : S105} (h : hasS kSe v = true) : Rows v := by
  unfold kSe at h
  rw [Mo.has_eq, if_pos rfl, hasA_cons, List.all_eq_true] at h
  intro x hx
  have h4 := h x hx
  unfold kRo at h4
  rw [Mo.has_eq, if_neg (by decide), if_pos rfl, Bool.and_eq_true] at h4
  have h5 := of_decide_eq_true h4.1
  match hxf : x.f2, h5 with
  | [c, o, b], _ => exact ⟨c, o, b, rfl⟩
def rowB (p : Tr) : List Int := numB p.1 ++ (numB p.2.1 ++ (numB p.2.2.length ++ p.2.2))
def formS (rows : List Tr) : List Int := numB rows.length ++ (rows.map rowB).flatten
theorem put_three (c o b x : S105) (e : x.f2 = [c, o, b]) : putS kRo x = rowB (tr x) := by
  unfold kRo
  rw [put_eq, if_neg (by decide), if_neg (by decide), if_neg (by decide), e]
  simp only [putL, put_eq, if_true, List.append_nil]
  rw [if_neg (by decide)]
  simp [rowB, tr, e0, e1, e2, e]
theorem put_se {v : S105} (h : Rows v) : putS kSe v = formS (trs v) := by
  unfold kSe formS
  rw [put_eq, if_neg (by decide), if_neg (by decide), if_pos rfl, putA_cons]
  congr 1
  · simp [trs]
  · congr 1
    unfold trs
    rw [List.map_map]
    apply List.map_congr_left
    intro x hx
    obtain ⟨c, o, b, e⟩ := h x hx
    exact put_three c o b x e
def rv (p : Tr) : S105 := ⟨0, [], [numV p.1, numV p.2.1, ⟨0, p.2.2, []⟩]⟩
def valS (rows : List Tr) : S105 := ⟨0, [], rows.map rv⟩
theorem val_rows (rows : List Tr) : Rows (valS rows) := fun x hx => by obtain ⟨p, _, rfl⟩ := List.mem_map.1 hx; exact ⟨_, _, _, rfl⟩
theorem put_val {rows : List Tr} (hr : ∀ p ∈ rows, rightF p.1 p.2.1 = true) : putS kSe (valS rows) = formS rows := by
  rw [put_se (val_rows rows)]
  have e2 : trs (valS rows) = rows := by
    unfold trs valS
    rw [List.map_map]
    conv => rhs; rw [← List.map_id rows]
    apply List.map_congr_left
    intro p hp
    have := of_decide_eq_true (hr p hp)
    show ((numV p.1).f0, (numV p.2.1).f0, p.2.2) = p
    have e3 : (numV p.1).f0 = p.1 := uN_id (by omega) (by omega)
    have e4 : (numV p.2.1).f0 = p.2.1 := uN_id (by omega) (by omega)
    rw [e3, e4]
  rw [e2]
theorem has_val (rows : List Tr) : hasS kSe (valS rows) = true := by
  unfold kSe
  rw [Mo.has_eq, if_pos rfl, hasA_cons, List.all_eq_true]
  intro x hx
  obtain ⟨p, _, rfl⟩ := List.mem_map.1 hx
  unfold kRo
  rw [Mo.has_eq, if_neg (by decide), if_pos rfl, Bool.and_eq_true]
  refine ⟨by simp [rv], ?_⟩
  simp only [rv, hasL, Bool.and_eq_true]
  exact ⟨by rw [Mo.has_eq, if_neg (by decide), if_neg (by decide)], by rw [Mo.has_eq, if_neg (by decide), if_neg (by decide)], by rw [Mo.has_eq, if_neg (by decide), if_neg (by decide)], trivial⟩
theorem wf_rv (p : Tr) : WfS (rv p) := .mk (by show (0 : Int) ≤ 0; decide) (by show (0 : Int) < _; decide) (fun x hx => by
  simp only [rv, List.mem_cons, List.not_mem_nil, or_false] at hx
  rcases hx with rfl | rfl | rfl
  · exact wf_num _
  · exact wf_num _
  · exact .mk (by show (0 : Int) ≤ 0; decide) (by show (0 : Int) < _; decide) (fun x hx => by simp at hx))
theorem wf_val (rows : List Tr) : WfS (valS rows) := .mk (by show (0 : Int) ≤ 0; decide) (by show (0 : Int) < _; decide) (fun x hx => by
  obtain ⟨p, _, rfl⟩ := List.mem_map.1 hx
  exact wf_rv p)
def goodF : Int → List Tr → Bool
  | _, [] => true
  | l, p :: r => (rightF p.1 p.2.1 && decide (l < p.1)) && goodF p.1 r
def parseS (bs : List Int) : Option (List Tr) × Int :=
  if (takeTop shS bs).2 ≠ 0 then (none, (takeTop shS bs).2)
  else if goodF (-1) (trs (takeTop shS bs).1) then (some (trs (takeTop shS bs).1), 0) else (none, 13)
theorem top_se {bs : List Int} (hx : Byt bs) {v : S105} (h : takeTop shS bs = (v, 0)) : Rows v ∧ bs = putS kSe v ∧ WfS v := by
  unfold takeTop at h
  rw [p_se] at h
  simp only at h
  by_cases he : (takeS kSe bs 0).2.2 = 0
  · rw [if_pos he] at h
    by_cases hr : (takeS kSe bs 0).2.1 = []
    · rw [if_pos hr] at h
      have h2 : takeS kSe bs 0 = (v, [], 0) := Prod.ext (Prod.mk.inj h).1 (Prod.ext hr he)
      obtain ⟨hc, hh⟩ := take_can kSe gd_se _ _ _ hx h2
      have hw := take_wf kSe bs 0 hx
      rw [h2] at hw
      rw [List.append_nil] at hc
      exact ⟨has_se hh, hc, hw⟩
    · rw [if_neg hr] at h; simp at h
  · rw [if_neg he] at h
    exact absurd (congrArg Prod.snd h) he
theorem wf_in {x : S105} (h : WfS x) {y : S105} (hy : y ∈ x.f2) : WfS y := by
  cases h with
  | mk _ _ hk => exact hk y hy
theorem wf_u {x : S105} (h : WfS x) : 0 ≤ x.f0 ∧ x.f0 < 18446744073709551616 := by
  cases h with
  | mk h0 h1 _ => exact ⟨h0, h1⟩
theorem goodF_right : ∀ {l : Int} {rows : List Tr}, goodF l rows = true → ∀ p ∈ rows, rightF p.1 p.2.1 = true
  | _, [], _, p, hp => by cases hp
  | l, q :: r, h, p, hp => by
    simp only [goodF, Bool.and_eq_true] at h
    rcases List.mem_cons.1 hp with rfl | hp
    · exact h.1.1
    · exact goodF_right h.2 p hp
theorem goodF_keys : ∀ {l : Int} {rows : List Tr}, goodF l rows = true → (∀ p ∈ rows, l < p.1) ∧ (rows.map (·.1)).Pairwise (fun a b => a < b)
  | _, [], _ => ⟨fun p hp => (by cases hp), List.Pairwise.nil⟩
  | l, q :: r, h => by
    simp only [goodF, Bool.and_eq_true, decide_eq_true_eq] at h
    obtain ⟨i1, i2⟩ := goodF_keys h.2
    refine ⟨fun p hp => ?_, List.pairwise_cons.2 ⟨fun x hx => ?_, i2⟩⟩
    · rcases List.mem_cons.1 hp with rfl | hp
      · exact h.1.2
      · exact Int.lt_trans h.1.2 (i1 p hp)
    · obtain ⟨p, hp, rfl⟩ := List.mem_map.1 hx
      exact i1 p hp
def lastK : Int → List Tr → Int
  | l, [] => l
  | _, q :: r => lastK q.1 r
theorem goodF_split : ∀ (l : Int) (r s : List Tr), goodF l (r ++ s) = (goodF l r && goodF (lastK l r) s)
  | l, [], s => by simp [goodF, lastK]
  | l, q :: r, s => by
    rw [List.cons_append]
    simp only [goodF, lastK]
    rw [goodF_split q.1 r s, Bool.and_assoc, Bool.and_assoc, Bool.and_assoc]
theorem lastK_snoc : ∀ (l : Int) (r : List Tr) (p : Tr), lastK l (r ++ [p]) = p.1
  | _, [], _ => rfl
  | _, q :: r, p => lastK_snoc q.1 r p
theorem parse_err {bs : List Int} (h : (takeTop shS bs).2 ≠ 0) : parseS bs = (none, (takeTop shS bs).2) := by unfold parseS; rw [if_pos h]
theorem parse_of {bs : List Int} {v : S105} (h : takeTop shS bs = (v, 0)) : parseS bs = if goodF (-1) (trs v) then (some (trs v), 0) else (none, 13) := by
  unfold parseS
  rw [h, if_neg (fun e => e rfl)]
theorem parse_some {bs : List Int} (hx : Byt bs) {rows : List Tr} {e : Int} (h : parseS bs = (some rows, e)) : e = 0 ∧ formS rows = bs ∧ goodF (-1) rows = true := by
  by_cases h1 : (takeTop shS bs).2 = 0
  · have ht : takeTop shS bs = ((takeTop shS bs).1, 0) := Prod.ext rfl h1
    obtain ⟨hr, hp, _⟩ := top_se hx ht
    rw [parse_of ht] at h
    split at h
    · next h3 =>
      cases h
      rw [put_se hr] at hp
      exact ⟨rfl, hp.symm, h3⟩
    · cases h
  · rw [parse_err h1] at h; cases h
theorem rightF_min {c o : Int} (hc : 0 ≤ c) (ho : 0 ≤ o) : rightF (min c 1099511627776) (min o 1099511627776) = rightF c o := by
  unfold Se.rightF
  congr 1
  apply propext
  omega
theorem rd105 {xs : List S105} {i : Nat} (h : i < xs.length) : rd_T105 xs (i : Int) = xs[i] := by simp [rd_T105, h]
theorem trs_take {v x cc oo bb : S105} {i : Nat} (h : i < v.f2.length) (hx : v.f2[i] = x) (e : x.f2 = [cc, oo, bb]) : (trs v).take (i + 1) = (trs v).take i ++ [(cc.f0, oo.f0, bb.f1)] := by
  have hl : i < (trs v).length := by simpa [trs] using h
  rw [List.take_succ_eq_append_getElem hl]
  congr 2
  simp only [trs, List.getElem_map, hx, tr, e0, e1, e2, e]
  rfl
theorem goodF_bad {v x cc oo bb : S105} {i : Nat} (h : i < v.f2.length) (hx : v.f2[i] = x) (e : x.f2 = [cc, oo, bb]) (hb : (rightF cc.f0 oo.f0 && decide (lastK (-1) ((trs v).take i) < cc.f0)) = false) : goodF (-1) (trs v) = false := by
  have e2 : trs v = (trs v).take (i + 1) ++ (trs v).drop (i + 1) := (List.take_append_drop _ _).symm
  rw [e2, trs_take h hx e, goodF_split, goodF_split]
  simp only [goodF, Bool.and_true]
  rw [hb, Bool.and_false, Bool.false_and]
theorem goodF_step {v x cc oo bb : S105} {i : Nat} (h : i < v.f2.length) (hx : v.f2[i] = x) (e : x.f2 = [cc, oo, bb]) (hg : goodF (-1) ((trs v).take i) = true) (hb : (rightF cc.f0 oo.f0 && decide (lastK (-1) ((trs v).take i) < cc.f0)) = true) : goodF (-1) ((trs v).take (i + 1)) = true := by
  rw [trs_take h hx e, goodF_split]
  simp only [goodF, Bool.and_true]
  rw [hg, hb]; rfl
theorem lastK_max : ∀ {l : Int} {rows : List Tr}, goodF l rows = true → ∀ p ∈ rows, p.1 ≤ lastK l rows
  | _, [], _, p, hp => by cases hp
  | l, q :: r, h, p, hp => by
    simp only [goodF, Bool.and_eq_true, decide_eq_true_eq] at h
    simp only [lastK]
    rcases List.mem_cons.1 hp with rfl | hp
    · cases r with
      | nil => exact Int.le_refl _
      | cons a r =>
        have h2 := h.2
        simp only [goodF, Bool.and_eq_true, decide_eq_true_eq] at h2
        have := lastK_max h.2 a (by simp)
        omega
    · exact lastK_max h.2 p hp
theorem alook_rise {rows : List Tr} (hg : goodF (-1) rows = true) {c : Int} (hc : lastK (-1) rows < c) : alook c rows = none := by
  apply alook_none_of
  intro hm
  obtain ⟨p, hp, rfl⟩ := List.mem_map.1 hm
  have := lastK_max hg p hp
  omega
end Go.Proofs.Ytnkpleggmiamdaa.Sp
