/- Kept of the text WvK: what is reached (wip/tools/prune.py). -/
import Derived.Test.YtkeadpichlgagaaVKeS
import Derived.Lib.SlKeysI
import Derived.Test.YtkeadpichlgagaaVSl
namespace Go.Proofs.Ytkeadpichlgagaa.Wv
open Go.RowKit Go.Maps Go.Sort Go.Shelf Go.Proofs.YtkeadpichlgagaaW.PrintWords
set_option linter.unusedVariables false
def asc (l : List Int) : List Int := l.mergeSort (fun x y => decide (x ≤ y))
theorem asc_perm (l : List Int) : (asc l).Perm l := List.mergeSort_perm _ _
theorem asc_len (l : List Int) : (asc l).length = l.length := (asc_perm l).length_eq
theorem asc_sorted (l : List Int) : (asc l).Pairwise (fun x y => x ≤ y) := by
  have h := List.pairwise_mergeSort (le := fun x y : Int => decide (x ≤ y)) (fun a b c h1 h2 => by simp only [decide_eq_true_eq] at *; omega) (fun a b => by simp only [Bool.or_eq_true, decide_eq_true_eq]; omega) l
  exact h.imp (fun h => of_decide_eq_true h)
theorem row_parts {w : World} {B : Nat} {ok : Nat → Prop} {v : Value} {xs : List Int} (hR : Kd.R (Kd.int .i64) 3 w B ok v xs) :
    (v = .slice none 0 0 ∧ xs = []) ∨ ∃ g cap cur, v = .slice (some ⟨g, 0, none⟩) xs.length cap ∧ B ≤ g ∧ w.heap[g]? = some (.cells cur 3 (0, 0)) ∧ xs.length ≤ cap ∧ cap ≤ maxLen ∧ cur.size = cap * 1 ∧ cur.toList.take xs.length = xs.map encZ := by
  have ho := Kd.own_of_R hR
  rcases ho.2 with ⟨e, hz⟩ | ⟨g, cap, cur, e, hg, hb, r1, r2, r3, r4⟩
  · exact .inl ⟨e, List.length_eq_zero_iff.1 hz⟩
  · exact .inr ⟨g, cap, cur, e, hg, hb, r1, r2, r3, by rw [Nat.mul_one] at r4; exact r4⟩
theorem sort_calls (v : Value) (xs : List Int) (w : World) (B : Nat) (ok : Nat → Prop) (hR : Kd.R (Kd.int .i64) 3 w B ok v xs) (hl : xs.length < 4611686018427387904) :
    Calls Try.prog 76 #[v] w fun e w' => e = .returned (.tuple #[]) ∧ Kd.R (Kd.int .i64) 3 w' B ok v (asc xs) ∧ w.grownBy w' v.ownBlock := by
  have hok := hR.1
  rcases row_parts hR with ⟨rfl, rfl⟩ | ⟨g, cap, cur, rfl, hg, hb, r1, r2, r3, r4⟩
  · refine (AnyM.slices_Sort_int_none Ke.sortA none 0 w).mono ?_
    rintro e w' ⟨rfl, rfl⟩
    exact ⟨rfl, by rw [show asc [] = [] from List.length_eq_zero_iff.1 (asc_len [])]; exact hR, World.grownBy.refl _ _⟩
  · refine (AnyM.slices_Sort_int Ke.sortA g 0 cap xs w (holds_of_block_i hb r4) (Array.getElem?_eq_some_iff.1 hb).1 hl).mono ?_
    rintro e w' ⟨rfl, n, os, rfl⟩
    have hrow := ownsRow_sorted_i (w := w) (base := B) (n := n) (os := os) (e := 3) (ss := xs) (ts := asc xs) (asc_len xs) hg hb r1 r2 r3
    rw [← asc_len xs] at hrow hok ⊢
    exact ⟨rfl, Kd.R_of_own hrow hok, grownBy_sorted_i _⟩
theorem compact_calls (v : Value) (xs : List Int) (w : World) (B : Nat) (ok : Nat → Prop) (hR : Kd.R (Kd.int .i64) 3 w B ok v xs) (hl : xs.length ≤ 1000000) :
    Calls Try.prog 82 #[v] w fun e w' => ∃ A c, e = .returned (.slice A (Lib.compact xs).length c) ∧ w.grownBy w' v.ownBlock := by
  rcases row_parts hR with ⟨rfl, rfl⟩ | ⟨g, cap, cur, rfl, hg, hb, r1, r2, r3, r4⟩
  · refine (AnyG.slices_Compact_int_empty Ke.compA none 0 w).mono ?_
    rintro e w' ⟨rfl, rfl⟩
    exact ⟨none, 0, rfl, World.grownBy.refl _ _⟩
  · refine (AnyG.slices_Compact_int Ke.compA g 0 cap xs w (holds_of_block_i hb r4) (by omega) r1).mono ?_
    rintro e w' ⟨rfl, q, rfl⟩
    exact ⟨_, _, rfl, grownBy_sorted_i (os := #[]) _⟩
theorem compact_len (l : List Int) (hs : l.Pairwise (fun x y => x ≤ y)) : ((Lib.compact l).length = l.length) ↔ l.Nodup := by
  have e : (Lib.compact l).length = ((List.range l.length).filter (Lib.keeps l.toArray)).length := by
    unfold Lib.compact Lib.compactUpTo
    rw [List.length_map]
  have e2 : ((List.range l.length).filter (Lib.keeps l.toArray)).length = l.length ↔ ∀ j, j < l.length → Lib.keeps l.toArray j = true := by
    have := List.length_filter_eq_length_iff (p := Lib.keeps l.toArray) (l := List.range l.length)
    rw [List.length_range] at this
    rw [this]
    simp only [List.mem_range]
  have hg : ∀ j (h : j < l.length), l.toArray[j]! = l[j] := fun j h => by simp [h]
  have hp := List.pairwise_iff_getElem.1 hs
  rw [e, e2]
  constructor
  · intro h
    refine List.pairwise_iff_getElem.2 (fun i j hi hj hij => ?_)
    have hk := h j hj
    have h1 : l[j] ≠ l[j - 1] := by
      intro e
      have : Lib.keeps l.toArray j = false := Lib.keeps_neg (by omega) (by rw [hg j hj, hg (j - 1) (by omega)]; exact e)
      rw [this] at hk
      cases hk
    have h2 := hp (j - 1) j (by omega) hj (by omega)
    have h3 : l[i] ≤ l[j - 1] := by
      rcases Nat.lt_or_ge i (j - 1) with h | h
      · exact hp i (j - 1) hi (by omega) h
      · have : i = j - 1 := by omega
        subst this
        exact Int.le_refl _
    omega
  · intro h j hj
    have hn := List.pairwise_iff_getElem.1 h
    rcases Nat.eq_zero_or_pos j with rfl | hpos
    · exact Lib.keeps_lt_one _ 0 (by omega)
    · refine Lib.keeps_pos ?_
      rw [hg j hj, hg (j - 1) (by omega)]
      exact (hn (j - 1) j (by omega) hj (by omega)).symm
end Go.Proofs.Ytkeadpichlgagaa.Wv
