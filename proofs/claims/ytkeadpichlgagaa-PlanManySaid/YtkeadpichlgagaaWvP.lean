/- wave: heaps of whole numbers, in plain Lean: what container/heap's up and down do to a row, and what they keep; a heap against the sorted list. -/
import Derived.WalkKit
namespace Go.Proofs.Ytkeadpichlgagaa.Wv
set_option linter.unusedVariables false
set_option linter.unusedSimpArgs false
abbrev Q := List Int
def lt (a b : Int) : Prop := a < b
def le (a b : Int) : Prop := a ≤ b
instance (a b : Int) : Decidable (lt a b) := by unfold lt; infer_instance
instance (a b : Int) : Decidable (le a b) := by unfold le; infer_instance
theorem le_refl (a : Int) : le a a := by unfold le; omega
theorem le_trans {a b c : Int} (h : le a b) (h' : le b c) : le a c := by unfold le at *; omega
theorem le_of_lt {a b : Int} (h : lt a b) : le a b := by unfold lt at h; unfold le; omega
theorem le_of_not_lt {a b : Int} (h : ¬ lt a b) : le b a := by unfold lt at h; unfold le; omega
theorem le_antisymm {a b : Int} (h : le a b) (h' : le b a) : a = b := by unfold le at *; omega

def g (xs : Q) (i : Nat) : Int := xs.getD i 0
def sw (xs : Q) (i j : Nat) : Q := (xs.set i (g xs j)).set j (g xs i)
theorem sw_length (xs : Q) (i j : Nat) : (sw xs i j).length = xs.length := by simp [sw]
theorem g_sw (xs : Q) {i j : Nat} (hi : i < xs.length) (hj : j < xs.length) (k : Nat) : g (sw xs i j) k = if k = j then g xs i else if k = i then g xs j else g xs k := by
  unfold g sw
  simp only [List.getD_eq_getElem?_getD, List.getElem?_set, List.length_set]
  by_cases h1 : k = j
  · subst h1; simp [hj, g]
  · simp only [h1, Ne.symm h1, if_false]
    by_cases h2 : k = i
    · subst h2; simp [hi, g]
    · simp [h2, Ne.symm h2]
theorem sw_perm (xs : Q) {i j : Nat} (hi : i < xs.length) (hj : j < xs.length) : (sw xs i j).Perm xs := by
  unfold sw
  rw [List.perm_iff_count]
  intro a
  have e1 : (xs.set i (g xs j)).length = xs.length := by simp
  rw [List.count_set (by simpa using hj), List.count_set hi]
  have gi : g xs i = xs[i] := by simp [g, hi]
  have gj : g xs j = xs[j] := by simp [g, hj]
  have p1 : 0 < xs.count xs[i] := List.count_pos_iff.2 (List.getElem_mem hi)
  have p2 : 0 < xs.count xs[j] := List.count_pos_iff.2 (List.getElem_mem hj)
  rw [gi, gj, List.getElem_set]
  by_cases hij : i = j
  · subst hij
    simp
    by_cases h : xs[i] = a
    · subst h; simp
    · simp [h]
  · rw [if_neg hij]
    by_cases h : xs[i] = a
    · subst h; simp
    · by_cases h' : xs[j] = a
      · subst h'; simp [h]
      · simp [h, h']

def par (k : Nat) : Nat := (k - 1) / 2
/-- A heap on the first n places. -/
def HeapN (xs : Q) (n : Nat) : Prop := ∀ k, 0 < k → k < n → le (g xs (par k)) (g xs k)
/-- A heap but for place i, whose own element may stand wrong to its parent and to its children. -/
structure Exc (xs : Q) (i n : Nat) : Prop where
  other : ∀ k, 0 < k → k < n → k ≠ i → par k ≠ i → le (g xs (par k)) (g xs k)
  over : ∀ k, 0 < k → k < n → par k = i → 0 < i → le (g xs (par i)) (g xs k)
def Kids (xs : Q) (i n : Nat) : Prop := ∀ k, 0 < k → k < n → par k = i → le (g xs i) (g xs k)
def Own (xs : Q) (i : Nat) : Prop := 0 < i → le (g xs (par i)) (g xs i)
theorem par_lt {k : Nat} (h : 0 < k) : par k < k := by unfold par; omega
theorem heap_of {xs : Q} {i n : Nat} (h : Exc xs i n) (hk : Kids xs i n) (ho : Own xs i) : HeapN xs n := fun k h0 hn => by
  by_cases e : k = i
  · subst e; exact ho h0
  · by_cases e' : par k = i
    · rw [e']; exact hk k h0 hn e'
    · exact h.other k h0 hn e e'
theorem exc_of_heap {xs : Q} {n : Nat} (h : HeapN xs n) (i : Nat) (hi : i < n) : Exc xs i n :=
  ⟨fun k h0 hn _ _ => h k h0 hn, fun k h0 hn e hp => le_trans (h i hp hi) (by have := h k h0 hn; rwa [e] at this)⟩

def up : Nat → Q → Nat → Q
  | 0, xs, _ => xs
  | f + 1, xs, j => if par j = j then xs else if lt (g xs j) (g xs (par j)) then up f (sw xs (par j) j) (par j) else xs
def dn : Nat → Q → Nat → Nat → Q × Nat
  | 0, xs, i, _ => (xs, i)
  | f + 1, xs, i, n =>
    if 2 * i + 1 < n then
      let j := if 2 * i + 2 < n ∧ lt (g xs (2 * i + 2)) (g xs (2 * i + 1)) then 2 * i + 2 else 2 * i + 1
      if lt (g xs j) (g xs i) then dn f (sw xs i j) j n else (xs, i)
    else (xs, i)

theorem up_length : ∀ f xs j, (up f xs j).length = xs.length
  | 0, _, _ => rfl
  | f + 1, xs, j => by
    unfold up
    split
    · rfl
    · split
      · rw [up_length, sw_length]
      · rfl
theorem dn_length : ∀ f xs i n, (dn f xs i n).1.length = xs.length
  | 0, _, _, _ => rfl
  | f + 1, xs, i, n => by
    unfold dn
    split
    · dsimp only
      generalize (if 2 * i + 2 < n ∧ lt (g xs (2 * i + 2)) (g xs (2 * i + 1)) then 2 * i + 2 else 2 * i + 1) = j
      split
      · rw [dn_length, sw_length]
      · rfl
    · rfl
theorem up_perm : ∀ f (xs : Q) j, j < xs.length → (up f xs j).Perm xs
  | 0, _, _, _ => List.Perm.refl _
  | f + 1, xs, j, h => by
    unfold up
    have hp : par j < xs.length := by unfold par; omega
    split
    · exact List.Perm.refl _
    · split
      · exact (up_perm f _ _ (by rw [sw_length]; exact hp)).trans (sw_perm xs hp h)
      · exact List.Perm.refl _
theorem up_far : ∀ f (xs : Q) j, j < xs.length → ∀ k, j < k → g (up f xs j) k = g xs k
  | 0, _, _, _, _, _ => rfl
  | f + 1, xs, j, h, k, hk => by
    unfold up
    have hp : par j < xs.length := by unfold par; omega
    split
    · rfl
    · split
      · rw [up_far f _ _ (by rw [sw_length]; exact hp) k (by unfold par; omega), g_sw xs hp h, if_neg (by omega), if_neg (by unfold par; omega)]
      · rfl

theorem up_heap : ∀ f (xs : Q) j n, j ≤ f → j < n → n ≤ xs.length → Exc xs j n → Kids xs j n → HeapN (up f xs j) n
  | 0, xs, j, n, hf, hj, hn, he, hk => by
    obtain rfl : j = 0 := by omega
    exact heap_of he hk (fun h => by omega)
  | f + 1, xs, j, n, hf, hj, hn, he, hk => by
    unfold up
    split
    · next e =>
      obtain rfl : j = 0 := by unfold par at e; omega
      exact heap_of he hk (fun h => by omega)
    · next e =>
      have hp0 : 0 < j := by unfold par at e; omega
      have hpj := par_lt hp0
      split
      · next hl =>
        have hjl : j < xs.length := by omega
        have hpl : par j < xs.length := by omega
        have G := g_sw xs hpl hjl
        refine up_heap f _ _ n (by omega) (by omega) (by rw [sw_length]; exact hn) ⟨fun k h0 hk' h1 h2 => ?_, fun k h0 hk' h1 h2 => ?_⟩ (fun k h0 hk' h1 => ?_)
        · rw [G, G]
          have hkj : k ≠ j := by rintro rfl; exact h2 rfl
          rw [if_neg hkj, if_neg h1]
          by_cases hpk : par k = j
          · rw [if_pos hpk]
            exact he.over k h0 hk' hpk hp0
          · rw [if_neg hpk, if_neg h2]
            exact he.other k h0 hk' hkj hpk
        · rw [G, G]
          have hne : par (par j) ≠ j := by unfold par; omega
          have hne2 : par (par j) ≠ par j := by unfold par at *; omega
          rw [if_neg hne, if_neg hne2]
          have hpp : le (g xs (par (par j))) (g xs (par j)) := he.other (par j) h2 (by omega) (by omega) hne
          by_cases hkj : k = j
          · rw [if_pos hkj]; exact hpp
          · rw [if_neg hkj]
            have hkp : k ≠ par j := by have := par_lt h0; omega
            rw [if_neg hkp]
            have := he.other k h0 hk' hkj (by rw [h1]; omega)
            rw [h1] at this
            exact le_trans hpp this
        · rw [G, G, if_neg (show par j ≠ j by omega), if_pos rfl]
          by_cases hkj : k = j
          · rw [if_pos hkj]; exact le_of_lt hl
          · have hkp : k ≠ par j := by have := par_lt h0; omega
            rw [if_neg hkj, if_neg hkp]
            have := he.other k h0 hk' hkj (by rw [h1]; omega)
            rw [h1] at this
            exact le_trans (le_of_lt hl) this
      · next hl => exact heap_of he hk (fun _ => le_of_not_lt hl)

theorem dn_perm : ∀ f (xs : Q) i n, i < xs.length → n ≤ xs.length → (dn f xs i n).1.Perm xs
  | 0, _, _, _, _, _ => List.Perm.refl _
  | f + 1, xs, i, n, h, hn => by
    unfold dn
    split
    · dsimp only
      generalize hj : (if 2 * i + 2 < n ∧ lt (g xs (2 * i + 2)) (g xs (2 * i + 1)) then 2 * i + 2 else 2 * i + 1) = j
      have hjn : j < n := by subst hj; split <;> omega
      split
      · exact (dn_perm f _ _ _ (by rw [sw_length]; omega) (by rw [sw_length]; exact hn)).trans (sw_perm xs h (by omega))
      · exact List.Perm.refl _
    · exact List.Perm.refl _
theorem dn_far : ∀ f (xs : Q) i n, i < n → n ≤ xs.length → ∀ k, n ≤ k → g (dn f xs i n).1 k = g xs k
  | 0, _, _, _, _, _, _, _ => rfl
  | f + 1, xs, i, n, h, hn, k, hk => by
    unfold dn
    split
    · dsimp only
      generalize hj : (if 2 * i + 2 < n ∧ lt (g xs (2 * i + 2)) (g xs (2 * i + 1)) then 2 * i + 2 else 2 * i + 1) = j
      have hjn : j < n := by subst hj; split <;> omega
      split
      · rw [dn_far f _ _ _ hjn (by rw [sw_length]; exact hn) k hk, g_sw xs (by omega) (by omega), if_neg (by omega), if_neg (by omega)]
      · rfl
    · rfl
theorem dn_ge : ∀ f (xs : Q) i n, i ≤ (dn f xs i n).2
  | 0, _, _, _ => Nat.le_refl _
  | f + 1, xs, i, n => by
    unfold dn
    split
    · dsimp only
      generalize hj : (if 2 * i + 2 < n ∧ lt (g xs (2 * i + 2)) (g xs (2 * i + 1)) then 2 * i + 2 else 2 * i + 1) = j
      have hij : i ≤ j := by subst hj; split <;> omega
      split
      · exact Nat.le_trans hij (dn_ge f _ _ _)
      · exact Nat.le_refl _
    · exact Nat.le_refl _

/-- Down: a place right to its parent ends in a heap. -/
theorem dn_heap : ∀ f (xs : Q) i n, n ≤ f + i → i < n → n ≤ xs.length → Exc xs i n → Own xs i → HeapN (dn f xs i n).1 n
  | 0, xs, i, n, hf, hi, _, _, _ => by omega
  | f + 1, xs, i, n, hf, hi, hn, he, ho => by
    unfold dn
    split
    · next h1 =>
      dsimp only
      generalize hj : (if 2 * i + 2 < n ∧ lt (g xs (2 * i + 2)) (g xs (2 * i + 1)) then 2 * i + 2 else 2 * i + 1) = j
      have hjn : j < n := by subst hj; split <;> omega
      have hij : i < j := by subst hj; split <;> omega
      have hpj : par j = i := by subst hj; split <;> (unfold par; omega)
      have hmin : ∀ k, 0 < k → k < n → par k = i → le (g xs j) (g xs k) := by
        intro k h0 hkn hpk
        have hk : k = 2 * i + 1 ∨ k = 2 * i + 2 := by unfold par at hpk; omega
        subst hj
        split
        · next h => rcases hk with rfl | rfl
                    · exact le_of_lt h.2
                    · exact le_refl _
        · next h => rcases hk with rfl | rfl
                    · exact le_refl _
                    · exact le_of_not_lt (fun h' => h ⟨hkn, h'⟩)
      have hil : i < xs.length := by omega
      have hjl : j < xs.length := by omega
      have G := g_sw xs hil hjl
      split
      · next hl =>
        refine dn_heap f _ _ n (by omega) hjn (by rw [sw_length]; exact hn) ⟨fun k h0 hk' h1' h2 => ?_, fun k h0 hk' h1' h2 => ?_⟩ (fun h0 => ?_)
        · rw [G, G, if_neg h2, if_neg h1']
          by_cases hki : k = i
          · subst hki
            have hpk := par_lt h0
            rw [if_pos rfl, if_neg (by omega)]
            exact he.over j (by omega) hjn hpj h0
          · rw [if_neg hki]
            by_cases hpk : par k = i
            · rw [if_pos hpk]; exact hmin k h0 hk' hpk
            · rw [if_neg hpk]; exact he.other k h0 hk' hki hpk
        · rw [G, G, hpj, if_neg (by omega), if_pos rfl]
          have := par_lt h0
          rw [if_neg (by omega), if_neg (by omega)]
          have := he.other k h0 hk' (by omega) (by omega)
          rwa [h1'] at this
        · rw [G, G, hpj, if_neg (by omega), if_pos rfl, if_pos rfl]
          exact le_of_lt hl
      · next hl =>
        exact heap_of he (fun k h0 hkn hpk => le_trans (le_of_not_lt hl) (hmin k h0 hkn hpk)) ho
    · next h1 => exact heap_of he (fun k h0 hkn hpk => by unfold par at hpk; omega) ho

/-- Down: it has moved and all is a heap, or it has not and its children are right. -/
theorem dn_fix (f : Nat) (xs : Q) (i n : Nat) (hf : n ≤ f + i) (hi : i < n) (hn : n ≤ xs.length) (he : Exc xs i n) :
    (i < (dn f xs i n).2 ∧ HeapN (dn f xs i n).1 n) ∨ (dn f xs i n = (xs, i) ∧ Kids xs i n) := by
  cases f with
  | zero => omega
  | succ f =>
    unfold dn
    split
    · next h1 =>
      dsimp only
      generalize hj : (if 2 * i + 2 < n ∧ lt (g xs (2 * i + 2)) (g xs (2 * i + 1)) then 2 * i + 2 else 2 * i + 1) = j
      have hjn : j < n := by subst hj; split <;> omega
      have hij : i < j := by subst hj; split <;> omega
      have hpj : par j = i := by subst hj; split <;> (unfold par; omega)
      have hmin : ∀ k, 0 < k → k < n → par k = i → le (g xs j) (g xs k) := by
        intro k h0 hkn hpk
        have hk : k = 2 * i + 1 ∨ k = 2 * i + 2 := by unfold par at hpk; omega
        subst hj
        split
        · next h => rcases hk with rfl | rfl
                    · exact le_of_lt h.2
                    · exact le_refl _
        · next h => rcases hk with rfl | rfl
                    · exact le_refl _
                    · exact le_of_not_lt (fun h' => h ⟨hkn, h'⟩)
      have G := g_sw xs (show i < xs.length by omega) (show j < xs.length by omega)
      split
      · next hl =>
        left
        refine ⟨Nat.lt_of_lt_of_le hij (dn_ge _ _ _ _), dn_heap f _ _ n (by omega) hjn (by rw [sw_length]; exact hn) ⟨fun k h0 hk' h1' h2 => ?_, fun k h0 hk' h1' h2 => ?_⟩ (fun h0 => ?_)⟩
        · rw [G, G, if_neg h2, if_neg h1']
          by_cases hki : k = i
          · subst hki
            have hpk := par_lt h0
            rw [if_pos rfl, if_neg (by omega)]
            exact he.over j (by omega) hjn hpj h0
          · rw [if_neg hki]
            by_cases hpk : par k = i
            · rw [if_pos hpk]; exact hmin k h0 hk' hpk
            · rw [if_neg hpk]; exact he.other k h0 hk' hki hpk
        · rw [G, G, hpj, if_neg (by omega), if_pos rfl]
          have := par_lt h0
          rw [if_neg (by omega), if_neg (by omega)]
          have := he.other k h0 hk' (by omega) (by omega)
          rwa [h1'] at this
        · rw [G, G, hpj, if_neg (by omega), if_pos rfl, if_pos rfl]
          exact le_of_lt hl
      · next hl => exact .inr ⟨rfl, fun k h0 hkn hpk => le_trans (le_of_not_lt hl) (hmin k h0 hkn hpk)⟩
    · next h1 => exact .inr ⟨rfl, fun k h0 hkn hpk => by unfold par at hpk; omega⟩

theorem root_le {xs : Q} {n : Nat} (h : HeapN xs n) : ∀ k, k < n → le (g xs 0) (g xs k) := by
  intro k
  induction k using Nat.strongRecOn with
  | _ k ih =>
    intro hk
    by_cases h0 : k = 0
    · subst h0; exact le_refl _
    · have hp := par_lt (show 0 < k by omega)
      exact le_trans (ih (par k) hp (by omega)) (h k (by omega) hk)

/-- xs is a heap of the numbers l, which stand in order. -/
structure Good (xs l : Q) : Prop where
  heap : HeapN xs xs.length
  perm : xs.Perm l
  sorted : l.Pairwise le

def ins (x : Int) : Q → Q
  | [] => [x]
  | y :: l => if lt x y then x :: y :: l else y :: ins x l
theorem ins_perm (x : Int) : ∀ l, (ins x l).Perm (x :: l)
  | [] => List.Perm.refl _
  | y :: l => by
    unfold ins
    split
    · exact List.Perm.refl _
    · exact (List.Perm.cons _ (ins_perm x l)).trans (List.Perm.swap ..)
theorem ins_sorted (x : Int) : ∀ {l : Q}, l.Pairwise le → (ins x l).Pairwise le
  | [], _ => by simp [ins]
  | y :: l, h => by
    unfold ins
    have h' := List.pairwise_cons.1 h
    split
    · next hl => exact List.pairwise_cons.2 ⟨fun z hz => by
        rcases List.mem_cons.1 hz with rfl | hz
        · exact le_of_lt hl
        · exact le_trans (le_of_lt hl) (h'.1 z hz), h⟩
    · next hl => exact List.pairwise_cons.2 ⟨fun z hz => by
        rcases List.mem_cons.1 ((ins_perm x l).mem_iff.1 hz) with rfl | hz
        · exact le_of_not_lt hl
        · exact h'.1 z hz, ins_sorted x h'.2⟩

theorem take_last {zs : Q} {n : Nat} (h : zs.length = n + 1) : zs = zs.take n ++ [g zs n] := by
  have e : zs.take (n + 1) = zs := List.take_of_length_le (by omega)
  have e2 := List.take_succ_eq_append_getElem (l := zs) (i := n) (by omega)
  rw [e] at e2
  have e3 : g zs n = zs[n]'(by omega) := by simp [g, List.getD_eq_getElem?_getD, List.getElem?_eq_getElem (show n < zs.length by omega)]
  rw [e3]
  exact e2
theorem g_take {zs : Q} {n k : Nat} (h : k < n) : g (zs.take n) k = g zs k := by
  unfold g
  simp [List.getD_eq_getElem?_getD, List.getElem?_take, h]
theorem heap_take {zs : Q} {n : Nat} (h : HeapN zs n) (hn : n ≤ zs.length) : HeapN (zs.take n) (zs.take n).length := by
  intro k h0 hk
  rw [List.length_take] at hk
  rw [g_take (by have := par_lt h0; omega), g_take (by omega)]
  exact h k h0 (by omega)
theorem g_mem {xs : Q} {k : Nat} (h : k < xs.length) : g xs k ∈ xs := by
  have : g xs k = xs[k] := by simp [g, h]
  rw [this]; exact List.getElem_mem h
theorem mem_g {xs : Q} {x : Int} (h : x ∈ xs) : ∃ k, k < xs.length ∧ g xs k = x := by
  obtain ⟨k, hk, rfl⟩ := List.getElem_of_mem h
  exact ⟨k, hk, by simp [g, hk]⟩

theorem Good.head {xs l : Q} {a : Int} (h : Good xs (a :: l)) : g xs 0 = a := by
  have hl : 0 < xs.length := by rw [h.perm.length_eq]; simp
  have h1 : a ∈ xs := h.perm.mem_iff.2 (by simp)
  obtain ⟨k, hk, e⟩ := mem_g h1
  have h2 := root_le h.heap k hk
  rw [e] at h2
  have h3 := h.perm.mem_iff.1 (g_mem hl)
  rcases List.mem_cons.1 h3 with e | h3
  · exact e
  · exact le_antisymm h2 ((List.pairwise_cons.1 h.sorted).1 _ h3)

def popL (xs : Q) : Q := ((dn (xs.length - 1) (sw xs 0 (xs.length - 1)) 0 (xs.length - 1)).1).take (xs.length - 1)
def popV (xs : Q) : Int := g ((dn (xs.length - 1) (sw xs 0 (xs.length - 1)) 0 (xs.length - 1)).1) (xs.length - 1)

theorem exc_sw {xs : Q} {n i : Nat} (h : HeapN xs (n + 1)) (hl : xs.length = n + 1) (hi : i < n) : Exc (sw xs i n) i n := by
  have G := g_sw xs (show i < xs.length by omega) (show n < xs.length by omega)
  refine ⟨fun k h0 hk h1 h2 => ?_, fun k h0 hk hp h0' => ?_⟩
  · have := par_lt h0
    rw [G, G, if_neg (by omega), if_neg h2, if_neg (by omega), if_neg h1]
    exact h k h0 (by omega)
  · have := par_lt h0
    have := par_lt h0'
    rw [G, G, if_neg (by omega), if_neg (by omega), if_neg (by omega), if_neg (by omega)]
    have e1 := h i h0' (by omega)
    have e2 := h k h0 (by omega)
    rw [hp] at e2
    exact le_trans e1 e2

theorem Good.pop {xs l : Q} {a : Int} (h : Good xs (a :: l)) : popV xs = a ∧ Good (popL xs) l := by
  obtain ⟨n, hn⟩ : ∃ n, xs.length = n + 1 := ⟨l.length, by rw [h.perm.length_eq]; simp⟩
  have hh := h.heap
  rw [hn] at hh
  unfold popV popL
  rw [hn, Nat.add_sub_cancel]
  have P : ((dn n (sw xs 0 n) 0 n).1).Perm xs := by
    cases n with
    | zero => exact sw_perm xs (by omega) (by omega)
    | succ m => exact (dn_perm _ _ _ _ (by rw [sw_length]; omega) (by rw [sw_length]; omega)).trans (sw_perm xs (by omega) (by omega))
  have L : ((dn n (sw xs 0 n) 0 n).1).length = n + 1 := by rw [dn_length, sw_length, hn]
  have V : g ((dn n (sw xs 0 n) 0 n).1) n = a := by
    rw [← h.head]
    cases n with
    | zero => rw [show (dn 0 (sw xs 0 0) 0 0).1 = sw xs 0 0 from rfl, g_sw xs (by omega) (by omega)]; simp
    | succ m => rw [dn_far _ _ _ _ (by omega) (by rw [sw_length]; omega) _ (by omega), g_sw xs (by omega) (by omega), if_pos rfl]
  have H : HeapN ((dn n (sw xs 0 n) 0 n).1) n := by
    cases n with
    | zero => intro k h0 hk; omega
    | succ m => exact dn_heap _ _ _ _ (by omega) (by omega) (by rw [sw_length]; omega) (exc_sw hh hn (by omega)) (fun h => by omega)
  refine ⟨V, heap_take H (by omega), ?_, (List.pairwise_cons.1 h.sorted).2⟩
  have := take_last L
  rw [V] at this
  have p2 := (P.trans h.perm)
  rw [this] at p2
  exact List.Perm.cons_inv (((List.perm_append_comm (l₁ := [a])).trans p2))

theorem Good.push {xs l : Q} (h : Good xs l) (x : Int) (f : Nat) (hf : xs.length ≤ f) : Good (up f (xs ++ [x]) xs.length) (ins x l) := by
  have hl : (xs ++ [x]).length = xs.length + 1 := by simp
  refine ⟨?_, (up_perm f _ _ (by omega)).trans ?_, ins_sorted x h.sorted⟩
  · rw [up_length, hl]
    have hg : ∀ k, k < xs.length → g (xs ++ [x]) k = g xs k := fun k hk => by simp [g, List.getD_eq_getElem?_getD, List.getElem?_append_left hk]
    refine up_heap f _ _ _ hf (by omega) (by omega) ⟨fun k h0 hk h1 h2 => ?_, fun k h0 hk hp h0' => ?_⟩ (fun k h0 hk hp => ?_)
    · have := par_lt h0
      rw [hg _ (by omega), hg _ (by omega)]
      exact h.heap k h0 (by omega)
    · have := par_lt h0; omega
    · have := par_lt h0; omega
  · exact (List.perm_append_comm (l₂ := [x])).trans ((List.Perm.cons x h.perm).trans (ins_perm x l).symm)

end Go.Proofs.Ytkeadpichlgagaa.Wv
