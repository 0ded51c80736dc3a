/- Kept of the text WvQ: what is reached (wip/tools/prune.py). -/
import Derived.Test.YtkeadpichlgagaaVPm7
import Derived.Test.YtkeadpichlgagaaVPWaveReadyx1
import Derived.Test.YtkeadpichlgagaaVPWaveReadyx2
import Derived.Test.YtkeadpichlgagaaVPWaveReadyx9
namespace Go.Proofs.Ytkeadpichlgagaa.Wv
open Go.RowKit Go.Proofs.YtkeadpichlgagaaW.PrintWords Go.Proofs.YtkeadpichlgagaaW.PrintLast Go.Proofs.YtkeadpichlgagaaW.PrintMore
open Go.Proofs.Ytkeadpichlgagaa.PWaveReady
set_option linter.unusedVariables false
set_option linter.unusedSimpArgs false
theorem rd_at (l : List Int) {i : Nat} (h : i < l.length) : rd l (i : Int) = l[i] := by simp [rd, h]
theorem rdL_row (G : Gr) (i : Nat) : rd_L1 G (i : Int) = row G (i : Int) := rfl
theorem inc (i : Nat) (h : i < 9223372036854775807) : wrap64 ((i : Int) + 1) = ((i + 1 : Nat) : Int) := by unfold wrap64; omega
theorem index_ev (l : List Int) (c : Int) (hl : l.length ≤ 1000000000) : ∀ d i : Nat, i + d = l.length →
    ∃ r, Ev (fun k => slices_Index_int_int.l0 k l c (l.length : Int) (i : Int)) r ∧ (0 ≤ r ↔ c ∈ l.drop i)
  | 0, i, h => ⟨-1, Ev.step (f := fun _ => some (-1)) (fun k => by simp only [slices_Index_int_int.l0]; rw [if_neg (by omega)]) (Ev.now _), by rw [List.drop_of_length_le (by omega)]; simp⟩
  | d + 1, i, h => by
    have hlt : i < l.length := by omega
    rw [List.drop_eq_getElem_cons hlt]
    by_cases hq : c = l[i]
    · exact ⟨i, Ev.step (f := fun _ => some (i : Int)) (fun k => by simp only [slices_Index_int_int.l0]; rw [if_pos (by omega), if_pos (by omega), if_pos (by omega), rd_at l hlt, if_pos hq]) (Ev.now _), fun _ => by rw [hq]; exact List.mem_cons_self, fun _ => by omega⟩
    · obtain ⟨r, h1, h2⟩ := index_ev l c hl d (i + 1) (by omega)
      exact ⟨r, Ev.step (fun k => by simp only [slices_Index_int_int.l0]; rw [if_pos (by omega), if_pos (by omega), if_pos (by omega), rd_at l hlt, if_neg hq, inc i (by omega)]) h1, by rw [h2, List.mem_cons]; simp [hq]⟩
theorem contains_ev (l : List Int) (c : Int) (hl : l.length ≤ 1000000000) : Ev (fun k => slices_Contains_int_int.f k l c) (decide (c ∈ l)) := by
  obtain ⟨r, h1, h2⟩ := index_ev l c hl l.length 0 (by omega)
  have h3 : Ev (fun k => slices_Index_int_int.f k l c) r := h1
  refine Ev.congr (fun k => by unfold slices_Contains_int_int.f; rfl) (Ev.bind (f := fun n t => some (decide (t ≥ 0))) h3 ?_)
  have e : decide (r ≥ 0) = decide (c ∈ l) := decide_eq_decide.2 (by rw [List.drop_zero] at h2; exact h2)
  rw [e]
  exact Ev.now _
theorem lists_in (G : Gr) (hN : G.length ≤ 1000000000) (n : Nat) (hn : n < G.length) (l : List Int) (hl : l.length ≤ 1000000000) (r : Int) : ∀ d i : Nat, i + d = l.length →
    (chkRow G.length n (l.take i) (l.drop i) ≠ 0 ∧ r = chkRow G.length n (l.take i) (l.drop i) ∨ chkRow G.length n (l.take i) (l.drop i) = 0 ∧ Ev (fun k => wave_lists.l0 k G G (G.length : Int) ((n + 1 : Nat) : Int)) r) →
    Ev (fun k => wave_lists.l1 k G n l G (G.length : Int) n l (l.length : Int) i) r
  | 0, i, h, hr => by
    rw [List.drop_of_length_le (by omega)] at hr
    simp only [chkRow] at hr
    rcases hr with ⟨h1, _⟩ | ⟨_, h2⟩
    · exact absurd rfl h1
    · exact Ev.step (fun k => by simp only [wave_lists.l1]; rw [if_neg (by omega), inc n (by omega)]) h2
  | d + 1, i, h, hr => by
    have hlt : i < l.length := by omega
    rw [List.drop_eq_getElem_cons hlt] at hr
    simp only [chkRow] at hr
    have hs : ∀ k b, (decide (l[i] < 0 ∨ (G.length : Int) ≤ l[i] ∨ l[i] = (n : Int))) = b → wave_lists.l1 (k + 1) G n l G (G.length : Int) n l (l.length : Int) i = wave_lists.j2 k G n l i l[i] G (G.length : Int) n l (l.length : Int) i b := by
      intro k b hb
      simp only [wave_lists.l1]
      rw [if_pos (by omega), if_pos (by omega), if_pos (by omega), rd_at l hlt]
      subst hb
      by_cases h1 : l[i] < 0
      · rw [if_pos h1]; congr 1; simp [h1]
      · rw [if_neg h1]
        by_cases h2 : (G.length : Int) ≤ l[i]
        · rw [if_pos h2]; congr 1; simp [h2]
        · rw [if_neg h2]; congr 1; rw [Bool.eq_iff_iff]; simp [h1, h2]
    by_cases hb : l[i] < 0 ∨ (G.length : Int) ≤ l[i] ∨ l[i] = (n : Int)
    · rw [if_pos hb] at hr
      obtain rfl : r = 110 := by
        rcases hr with ⟨_, h⟩ | ⟨h, _⟩
        · exact h
        · omega
      refine Ev.step (fun k => hs k true (decide_eq_true hb)) (Ev.step (f := fun _ => some 110) (fun k => by simp only [wave_lists.j2]; rw [if_pos trivial]) (Ev.now _))
    · rw [if_neg hb] at hr
      have htl : (l.take i).length ≤ 1000000000 := Nat.le_trans (List.length_take_le _ _) (by omega)
      have C := contains_ev (l.take i) l[i] htl
      refine Ev.step (fun k => hs k false (decide_eq_false hb)) (Ev.step (f := fun k => (slices_Contains_int_int.f k (l.take i) l[i]).bind fun t106 => (if t106 = true then (some 113) else (wave_lists.l1 k G n l G (G.length : Int) n l (l.length : Int) ((i + 1 : Nat) : Int)))) (fun k => by
        simp only [wave_lists.j2]
        rw [if_neg (by simp), if_pos (by omega), if_pos (by omega), Int.toNat_natCast, inc i (by omega)]) (Ev.bind C ?_))
      by_cases hm : l[i] ∈ l.take i
      · rw [if_pos hm] at hr
        obtain rfl : r = 113 := by
          rcases hr with ⟨_, h⟩ | ⟨h, _⟩
          · exact h
          · omega
        simp only [hm, decide_true, if_true]
        exact Ev.now _
      · rw [if_neg hm] at hr
        simp only [hm, decide_false, Bool.false_eq_true, if_false]
        refine lists_in G hN n hn l hl r d (i + 1) (by omega) ?_
        rw [List.take_succ_eq_append_getElem hlt]
        exact hr
theorem lists_out (G : Gr) (hN : G.length ≤ 1000000000) (hrows : ∀ y : Nat, y < G.length → (row G (y : Int)).length ≤ 1000000000) : ∀ d n : Nat, n + d = G.length →
    Ev (fun k => wave_lists.l0 k G G (G.length : Int) (n : Int)) (chkG G.length n (G.drop n))
  | 0, n, h => by
    rw [List.drop_of_length_le (by omega)]
    exact Ev.step (f := fun _ => some 0) (fun k => by simp only [wave_lists.l0]; rw [if_neg (by omega)]) (Ev.now _)
  | d + 1, n, h => by
    have hlt : n < G.length := by omega
    have ih := lists_out G hN hrows d (n + 1) (by omega)
    rw [List.drop_eq_getElem_cons hlt]
    simp only [chkG]
    have er : G[n] = row G (n : Int) := (row_at G hlt).symm
    rw [er]
    refine Ev.step (f := fun k => wave_lists.l1 k G n (row G (n : Int)) G (G.length : Int) n (row G (n : Int)) ((row G (n : Int)).length : Int) 0) (fun k => by
      simp only [wave_lists.l0]
      rw [if_pos (by omega), if_pos (by omega), if_pos (by omega), rdL_row]) ?_
    refine lists_in G hN n hlt (row G (n : Int)) (hrows n hlt) _ (row G (n : Int)).length 0 (by omega) ?_
    rw [List.take_zero, List.drop_zero]
    by_cases hz : chkRow G.length n [] (row G (n : Int)) ≠ 0
    · rw [if_pos hz]; exact .inl ⟨hz, rfl⟩
    · rw [if_neg hz]
      have : chkRow G.length n [] (row G (n : Int)) = 0 := by omega
      exact .inr ⟨this, by rw [show (n : Int) + 1 = ((n + 1 : Nat) : Int) by omega]; exact ih⟩
theorem lists_ev (G : Gr) (hN : G.length ≤ 1000000000) (hrows : ∀ y : Nat, y < G.length → (row G (y : Int)).length ≤ 1000000000) : Ev (fun k => wave_lists.f k G) (listsE G) := by
  have := lists_out G hN hrows G.length 0 (by omega)
  rw [List.drop_zero] at this
  exact this
def yst (G : Gr) (n i : Nat) : List (List Int) := (List.range G.length).map (fun a : Nat => (rng n).filter (fun y => (row G y).contains (a : Int)) ++ (if (a : Int) ∈ (row G (n : Int)).take i then [(n : Int)] else []))
theorem yst_length (G : Gr) (n i : Nat) : (yst G n i).length = G.length := by simp [yst]
theorem yst_rd (G : Gr) (n i : Nat) {a : Nat} (h : a < G.length) : rd_L1 (yst G n i) (a : Int) = (rng n).filter (fun y => (row G y).contains (a : Int)) ++ (if (a : Int) ∈ (row G (n : Int)).take i then [(n : Int)] else []) := by
  unfold rd_L1 yst
  simp [List.getD_eq_getElem?_getD, h]
theorem yst_set {G : Gr} (hk : Ok G) {n i : Nat} (hn : n < G.length) (hi : i < (row G (n : Int)).length) {a : Nat} (ha : (row G (n : Int))[i] = (a : Int)) :
    (yst G n i).set a (rd_L1 (yst G n i) (a : Int) ++ [(n : Int)]) = yst G n (i + 1) := by
  have haN : a < G.length := by
    have := hk.at' n (by omega) (by omega) _ (List.getElem_mem hi)
    omega
  have hnt : (a : Int) ∉ (row G (n : Int)).take i := fun h => by
    have h1 := hk.nd n (by omega) (by omega)
    have h2 : ((row G (n : Int)).take (i + 1)).Nodup := h1.sublist (List.take_sublist _ _)
    rw [List.take_succ_eq_append_getElem hi, List.nodup_append] at h2
    exact h2.2.2 _ h _ (by simp [ha]) rfl
  refine List.ext_getElem (by simp [yst]) (fun y h1 h2 => ?_)
  have hy : y < G.length := by rw [yst_length] at h2; exact h2
  rw [List.getElem_set]
  by_cases e : a = y
  · subst e
    rw [if_pos rfl, yst_rd G n i haN, if_neg hnt]
    simp only [yst, List.getElem_map, List.getElem_range, List.append_nil]
    rw [List.take_succ_eq_append_getElem hi, if_pos (by simp [ha])]
  · rw [if_neg e]
    simp only [yst, List.getElem_map, List.getElem_range]
    rw [List.take_succ_eq_append_getElem hi, ha]
    have : ((y : Int) ∈ (row G (n : Int)).take i ++ [(a : Int)]) ↔ ((y : Int) ∈ (row G (n : Int)).take i) := by
      rw [List.mem_append, List.mem_singleton]
      exact ⟨fun h => h.elim id (fun h => absurd (by omega) e), .inl⟩
    simp only [this]
theorem yst_next (G : Gr) (n : Nat) : yst G n (row G (n : Int)).length = yst G (n + 1) 0 := by
  unfold yst
  refine List.map_congr_left (fun a _ => ?_)
  rw [List.take_length, List.take_zero, rng_succ, List.filter_append]
  simp only [List.not_mem_nil, if_false, List.append_nil]
  congr 1
  by_cases h : (a : Int) ∈ row G (n : Int)
  · rw [if_pos h, List.filter_cons, if_pos (by simpa using h)]; rfl
  · rw [if_neg h, List.filter_cons, if_neg (by simpa using h)]; rfl
theorem yst_len {G : Gr} {n i a : Nat} (h : a < G.length) : (rd_L1 (yst G n i) (a : Int)).length ≤ n + 1 := by
  rw [yst_rd G n i h, List.length_append]
  have h1 : ((rng n).filter (fun y => (row G y).contains (a : Int))).length ≤ n := Nat.le_trans (List.length_filter_le _ _) (by rw [rng_length]; exact Nat.le_refl _)
  generalize (rng n).filter (fun y => (row G y).contains (a : Int)) = L at h1 ⊢
  split
  · rw [List.length_singleton]; omega
  · rw [List.length_nil]; omega
theorem young_in {G : Gr} (hk : Ok G) (hN : G.length ≤ 1000000000) (n : Nat) (hn : n < G.length) (hl : (row G (n : Int)).length ≤ 1000000000) (r : List (List Int)) (hr : Ev (fun k => wave_young.l0 k (yst G (n + 1) 0) G (G.length : Int) ((n + 1 : Nat) : Int)) r) :
    ∀ d i : Nat, i + d = (row G (n : Int)).length → Ev (fun k => wave_young.l1 k (yst G n i) n G (G.length : Int) n (row G (n : Int)) ((row G (n : Int)).length : Int) i) r
  | 0, i, h => by
    obtain rfl : i = (row G (n : Int)).length := by omega
    rw [yst_next]
    exact Ev.step (fun k => by simp only [wave_young.l1]; rw [if_neg (by omega), inc n (by omega)]) hr
  | d + 1, i, h => by
    have hi : i < (row G (n : Int)).length := by omega
    have ih := young_in hk hN n hn hl r hr d (i + 1) (by omega)
    have hb := hk.at' n (by omega) (by omega) _ (List.getElem_mem hi)
    obtain ⟨a, ha⟩ : ∃ a : Nat, (row G (n : Int))[i] = (a : Int) := ⟨((row G (n : Int))[i]).toNat, by omega⟩
    rw [ha] at hb
    have haN : a < G.length := by omega
    have hlen := yst_len (G := G) (n := n) (i := i) haN
    have hset := yst_set hk hn hi ha
    refine Ev.step (fun k => ?_) ih
    simp only [wave_young.l1]
    rw [if_pos (by omega), if_pos (by omega), if_pos (by omega), rd_at _ hi, ha, if_pos (by omega), if_pos (by rw [yst_length]; omega), if_pos (by omega), Int.toNat_natCast, hset, inc i (by omega)]
theorem young_out {G : Gr} (hk : Ok G) (hN : G.length ≤ 1000000000) (hrows : ∀ y : Nat, y < G.length → (row G (y : Int)).length ≤ 1000000000) : ∀ d n : Nat, n + d = G.length →
    Ev (fun k => wave_young.l0 k (yst G n 0) G (G.length : Int) (n : Int)) (yst G G.length 0)
  | 0, n, h => by
    obtain rfl : n = G.length := by omega
    exact Ev.step (f := fun _ => some (yst G G.length 0)) (fun k => by simp only [wave_young.l0]; rw [if_neg (by omega)]) (Ev.now _)
  | d + 1, n, h => by
    have hlt : n < G.length := by omega
    have ih := young_out hk hN hrows d (n + 1) (by omega)
    exact Ev.step (fun k => by
      simp only [wave_young.l0]
      rw [if_pos (by omega), if_pos (by omega), if_pos (by omega), rdL_row]
      rfl) (young_in hk hN n hlt (hrows n hlt) _ ih (row G (n : Int)).length 0 (by omega))
theorem yst_start (G : Gr) : yst G 0 0 = List.replicate G.length [] := by
  unfold yst rng
  simp
  rw [List.map_const', List.length_range]
theorem young_ev {G : Gr} (hk : Ok G) (hN : G.length ≤ 1000000000) (hrows : ∀ y : Nat, y < G.length → (row G (y : Int)).length ≤ 1000000000) : ∃ k, wave_young.f k G = some ((List.range G.length).map (fun a : Nat => downs G (a : Int))) := by
  obtain ⟨k, hk⟩ := (young_out hk hN hrows G.length 0 (by omega)).rounds
  refine ⟨k, ?_⟩
  unfold wave_young.f
  rw [if_pos (by omega), if_pos (by omega), Int.toNat_natCast, ← yst_start]
  rw [show ((0 : Nat) : Int) = 0 from rfl] at hk
  rw [hk]
  congr 1
  unfold yst downs
  refine List.map_congr_left (fun a _ => ?_)
  simp
end Go.Proofs.Ytkeadpichlgagaa.Wv
