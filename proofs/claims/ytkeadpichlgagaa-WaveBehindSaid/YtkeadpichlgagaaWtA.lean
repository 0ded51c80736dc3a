/- wave: the marks of what is over against the nodes that are over; plain. -/
import Derived.Test.YtkeadpichlgagaaWvO
namespace Go.Proofs.Ytkeadpichlgagaa.Wv
open Go.RowKit Go.Maps Go.Proofs.YtkeadpichlgagaaW.PrintWords Go.Proofs.YtkeadpichlgagaaW.PrintLast Go.Proofs.YtkeadpichlgagaaW.PrintMore
open Go.Proofs.Ytkeadpichlgagaa.PWaveReady Go.Proofs.Ytkeadpichlgagaa.Mp
set_option linter.unusedVariables false
set_option linter.unusedSimpArgs false
set_option linter.unnecessarySimpa false

theorem inB_set {q : List Bool} {x y : Int} (b : Bool) (hx : 0 ≤ x) (hl : x < q.length) (hy : 0 ≤ y) : inB (q.set x.toNat b) y = if y = x then b else inB q y := by
  unfold inB
  simp only [List.getD_eq_getElem?_getD, List.getElem?_set]
  by_cases h : y = x
  · subst h
    rw [if_pos rfl, if_pos rfl, if_pos (by omega)]
    rfl
  · rw [if_neg (by omega), if_neg h]
theorem isO_in {q : List Bool} {x : Int} (hx : 0 ≤ x) (hl : x < q.length) : isO q x = inB q x := by
  unfold isO
  rw [decide_eq_true hl, Bool.true_and]
  rfl
/-- The marks are those of the list. -/
structure Ov (N : Nat) (S : List Int) (q : List Bool) : Prop where
  len : q.length = N
  at' : ∀ x : Int, 0 ≤ x → x < N → inB q x = S.contains x
theorem Ov.nil (N : Nat) : Ov N [] (List.replicate N false) := ⟨by simp, fun x h0 h1 => by
  unfold inB
  rw [List.getD_eq_getElem?_getD, List.getElem?_replicate, if_pos (by omega)]
  rfl⟩
theorem Ov.next {N : Nat} {S : List Int} {q : List Bool} {a : Int} (h : Ov N S q) (h0 : 0 ≤ a) (h1 : a < N) : Ov N (S ++ [a]) (q.set a.toNat true) := by
  refine ⟨by rw [List.length_set]; exact h.len, fun x x0 x1 => ?_⟩
  rw [inB_set true h0 (by rw [h.len]; exact h1) x0]
  by_cases hx : x = a
  · subst hx; simp
  · rw [if_neg hx, h.at' x x0 x1]
    simp [hx]
theorem rdyO_eq {g : Gr} {S : List Int} {q : List Bool} (h0 : ordE g = 0) (h : Ov g.length S q) : rdyO g q = rdy g S := by
  unfold rdyO rdy
  rw [if_pos h0]
  refine List.filter_congr (fun x hx => ?_)
  obtain ⟨x0, x1⟩ := mem_rng.1 hx
  have hr := (rt_of h0).ok.at' x x0 x1
  unfold isRO isR
  rw [isO_in x0 (by rw [h.len]; exact x1), h.at' x x0 x1]
  congr 1
  rw [Bool.eq_iff_iff, List.all_eq_true, List.all_eq_true]
  refine forall_congr' (fun e => ?_)
  refine forall_congr' (fun he => ?_)
  obtain ⟨e0, e1, _⟩ := hr e he
  rw [isO_in e0 (by rw [h.len]; exact e1), h.at' e e0 e1]
/-- As long as not all is over, something is ready. -/
theorem rdy_some {g : Gr} (hR : Rt g) {S : List Int} (hS : St g S) (hl : S.length < g.length) : rdy g S ≠ [] := by
  intro hE
  have hall : ∀ i : Nat, ∀ hi : i < (ordA g).length, (ordA g)[i] ∈ S := by
    intro i
    induction i using Nat.strongRecOn with
    | ind i ih =>
      intro hi
      false_or_by_contra
      rename_i hn
      have hin := (ordA_st g).inn _ (List.getElem_mem hi)
      have hm : (ordA g)[i] ∈ rdy g S := mem_rdy.2 ⟨hin.1, hin.2, hn, fun e he => by
        obtain ⟨j, hj, hji, rfl⟩ := elder_at hi he
        exact ih j hji hj⟩
      rw [hE] at hm
      cases hm
  have hsub : ∀ x, x ∈ ordA g → x ∈ S := fun x hx => by
    obtain ⟨i, hi, rfl⟩ := List.getElem_of_mem hx
    exact hall i hi
  have hp : (ordA g).Perm ((ordA g).filter (fun x => S.contains x)) := by
    rw [List.filter_eq_self.2 (fun x hx => by simpa using hsub x hx)]
  have hle : (ordA g).length ≤ S.length := by
    have hf : (S.filter (fun x => (ordA g).contains x)).Perm (ordA g) := nodup_perm (hS.nd.filter _) (ordA_st g).nd (fun x => by
      rw [List.mem_filter]
      exact ⟨fun h => by simpa using h.2, fun h => ⟨hsub x h, by simpa using h⟩⟩)
    rw [← hf.length_eq]
    exact List.length_filter_le _ _
  have := hR.all
  omega
theorem rdy_none {g : Gr} {S : List Int} (hS : St g S) (hl : S.length = g.length) : rdy g S = [] := by
  refine List.eq_nil_iff_forall_not_mem.2 (fun x hx => ?_)
  obtain ⟨x0, x1, hn, _⟩ := mem_rdy.1 hx
  exact hn (mem_of_full hS.nd hS.inn hl x0 x1)

/-- Of two places in the order, where a node lies. -/
theorem beh_place {g : Gr} (h : Rt g) {k x : Int} (k0 : 0 ≤ k) (k1 : k < g.length) (x0 : 0 ≤ x) (x1 : x < g.length) (hx : ld g k x = true) :
    lev g k < lev g x ∧ ∃ i, ∃ hi : i < (ordA g).length, ∃ j, ∃ hj : j < (ordA g).length, (ordA g)[i] = x ∧ (ordA g)[j] = k ∧ j < i := by
  obtain ⟨i, hi, rfl⟩ := List.getElem_of_mem (h.mem x0 x1)
  obtain ⟨hl, j, hj, hji, e⟩ := ld_behind i hi hx
  exact ⟨hl, i, hi, j, hj, rfl, e, hji⟩
theorem ld_asym {g : Gr} (h : Rt g) {k x : Int} (k0 : 0 ≤ k) (k1 : k < g.length) (x0 : 0 ≤ x) (x1 : x < g.length) (hx : ld g k x = true) : ld g x k = false := by
  cases hk : ld g x k with
  | false => rfl
  | true =>
    obtain ⟨h1, _⟩ := beh_place h k0 k1 x0 x1 hx
    obtain ⟨h2, _⟩ := beh_place h x0 x1 k0 k1 hk
    omega
theorem filter_one {N : Nat} {k : Int} (k0 : 0 ≤ k) (k1 : k < N) {p : Int → Bool} (hp : ∀ x : Int, 0 ≤ x → x < N → (p x = true ↔ x = k)) : (rng N).filter p = [k] := by
  have h1 : ((rng N).filter p).Perm [k] := nodup_perm ((rng_nodup N).filter _) (by simp) (fun x => by
    rw [List.mem_filter, List.mem_singleton, mem_rng]
    exact ⟨fun ⟨⟨a, b⟩, c⟩ => (hp x a b).1 c, fun e => by subst e; exact ⟨⟨k0, k1⟩, (hp _ k0 k1).2 rfl⟩⟩)
  exact List.perm_singleton.1 h1
theorem rdyO_one {g : Gr} (h0 : ordE g = 0) {k : Int} (k0 : 0 ≤ k) (k1 : k < g.length) {q : List Bool} (hl : q.length = g.length) (hq : ∀ x : Int, 0 ≤ x → x < g.length → inB q x = (decide (x ≠ k) && !ld g k x)) : rdyO g q = [k] := by
  have hR := rt_of h0
  unfold rdyO
  rw [if_pos h0]
  refine filter_one k0 k1 (fun x x0 x1 => ?_)
  have hr := hR.ok.at' x x0 x1
  unfold isRO
  rw [isO_in x0 (by rw [hl]; exact x1), hq x x0 x1, Bool.and_eq_true, List.all_eq_true]
  constructor
  · rintro ⟨h1, h2⟩
    false_or_by_contra
    rename_i hne
    have hld : ld g k x = true := by simpa [hne] using h1
    obtain ⟨i, hi, rfl⟩ := List.getElem_of_mem (hR.mem x0 x1)
    rw [ld_eq hi, List.any_eq_true] at hld
    obtain ⟨e, he, hee⟩ := hld
    obtain ⟨e0, e1, _⟩ := hr e he
    have h3 := h2 e he
    rw [isO_in e0 (by rw [hl]; exact e1), hq e e0 e1] at h3
    simp at h3 hee
    rcases hee with h | h
    · exact h3.1 h
    · rw [h] at h3; exact absurd h3.2 (by simp)
  · rintro rfl
    refine ⟨by simp, fun e he => ?_⟩
    obtain ⟨e0, e1, e2⟩ := hr e he
    rw [isO_in e0 (by rw [hl]; exact e1), hq e e0 e1]
    have hn : ld g x e = false := by
      cases hh : ld g x e with
      | false => rfl
      | true =>
        obtain ⟨i, hi, rfl⟩ := List.getElem_of_mem (hR.mem x0 x1)
        have := lev_gt hi he
        obtain ⟨h1, _⟩ := beh_place hR x0 x1 e0 e1 hh
        omega
    rw [hn]
    simpa using e2
end Go.Proofs.Ytkeadpichlgagaa.Wv
