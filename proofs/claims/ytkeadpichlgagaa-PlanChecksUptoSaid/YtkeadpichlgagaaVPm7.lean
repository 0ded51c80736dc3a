/- Kept of the text Pm7: what is reached (wip/tools/prune.py). -/
import Derived.WalkKit
namespace Go.Proofs.Ytkeadpichlgagaa.Wv
set_option linter.unusedVariables false
set_option linter.unusedSimpArgs false
abbrev Q := List Int
def lt (a b : Int) : Prop := a < b
def le (a b : Int) : Prop := a ≤ b
instance (a b : Int) : Decidable (lt a b) := by unfold lt; infer_instance
instance (a b : Int) : Decidable (le a b) := by unfold le; infer_instance
theorem le_refl (a : Int) : le a a := by unfold le; omega
theorem le_trans {a b c : Int} (h : le a b) (h' : le b c) : le a c := by unfold le at *; omega
theorem le_of_lt {a b : Int} (h : lt a b) : le a b := by unfold lt at h; unfold le; omega
theorem le_of_not_lt {a b : Int} (h : ¬ lt a b) : le b a := by unfold lt at h; unfold le; omega
theorem le_antisymm {a b : Int} (h : le a b) (h' : le b a) : a = b := by unfold le at *; omega
def g (xs : Q) (i : Nat) : Int := xs.getD i 0
def sw (xs : Q) (i j : Nat) : Q := (xs.set i (g xs j)).set j (g xs i)
theorem sw_length (xs : Q) (i j : Nat) : (sw xs i j).length = xs.length := by simp [sw]
theorem g_sw (xs : Q) {i j : Nat} (hi : i < xs.length) (hj : j < xs.length) (k : Nat) : g (sw xs i j) k = if k = j then g xs i else if k = i then g xs j else g xs k := by
  unfold g sw
  simp only [List.getD_eq_getElem?_getD, List.getElem?_set, List.length_set]
  by_cases h1 : k = j
  · subst h1; simp [hj, g]
  · simp only [h1, Ne.symm h1, if_false]
    by_cases h2 : k = i
    · subst h2; simp [hi, g]
    · simp [h2, Ne.symm h2]
theorem sw_perm (xs : Q) {i j : Nat} (hi : i < xs.length) (hj : j < xs.length) : (sw xs i j).Perm xs := by
  unfold sw
  rw [List.perm_iff_count]
  intro a
  have e1 : (xs.set i (g xs j)).length = xs.length := by simp
  rw [List.count_set (by simpa using hj), List.count_set hi]
  have gi : g xs i = xs[i] := by simp [g, hi]
  have gj : g xs j = xs[j] := by simp [g, hj]
  have p1 : 0 < xs.count xs[i] := List.count_pos_iff.2 (List.getElem_mem hi)
  have p2 : 0 < xs.count xs[j] := List.count_pos_iff.2 (List.getElem_mem hj)
  rw [gi, gj, List.getElem_set]
  by_cases hij : i = j
  · subst hij
    simp
    by_cases h : xs[i] = a
    · subst h; simp
    · simp [h]
  · rw [if_neg hij]
    by_cases h : xs[i] = a
    · subst h; simp
    · by_cases h' : xs[j] = a
      · subst h'; simp [h]
      · simp [h, h']
def par (k : Nat) : Nat := (k - 1) / 2
def HeapN (xs : Q) (n : Nat) : Prop := ∀ k, 0 < k → k < n → le (g xs (par k)) (g xs k)
structure Exc (xs : Q) (i n : Nat) : Prop where
  other : ∀ k, 0 < k → k < n → k ≠ i → par k ≠ i → le (g xs (par k)) (g xs k)
  over : ∀ k, 0 < k → k < n → par k = i → 0 < i → le (g xs (par i)) (g xs k)
def Kids (xs : Q) (i n : Nat) : Prop := ∀ k, 0 < k → k < n → par k = i → le (g xs i) (g xs k)
def Own (xs : Q) (i : Nat) : Prop := 0 < i → le (g xs (par i)) (g xs i)
theorem par_lt {k : Nat} (h : 0 < k) : par k < k := by unfold par; omega
theorem heap_of {xs : Q} {i n : Nat} (h : Exc xs i n) (hk : Kids xs i n) (ho : Own xs i) : HeapN xs n := fun k h0 hn => by
  by_cases e : k = i
  · subst e; exact ho h0
  · by_cases e' : par k = i
    · rw [e']; exact hk k h0 hn e'
    · exact h.other k h0 hn e e'
def up : Nat → Q → Nat → Q
  | 0, xs, _ => xs
  | f + 1, xs, j => if par j = j then xs else if lt (g xs j) (g xs (par j)) then up f (sw xs (par j) j) (par j) else xs
def dn : Nat → Q → Nat → Nat → Q × Nat
  | 0, xs, i, _ => (xs, i)
  | f + 1, xs, i, n =>
    if 2 * i + 1 < n then
      let j := if 2 * i + 2 < n ∧ lt (g xs (2 * i + 2)) (g xs (2 * i + 1)) then 2 * i + 2 else 2 * i + 1
      if lt (g xs j) (g xs i) then dn f (sw xs i j) j n else (xs, i)
    else (xs, i)
theorem up_length : ∀ f xs j, (up f xs j).length = xs.length
  | 0, _, _ => rfl
  | f + 1, xs, j => by
    unfold up
    split
    · rfl
    · split
      · rw [up_length, sw_length]
      · rfl
theorem dn_length : ∀ f xs i n, (dn f xs i n).1.length = xs.length
  | 0, _, _, _ => rfl
  | f + 1, xs, i, n => by
    unfold dn
    split
    · dsimp only
      generalize (if 2 * i + 2 < n ∧ lt (g xs (2 * i + 2)) (g xs (2 * i + 1)) then 2 * i + 2 else 2 * i + 1) = j
      split
      · rw [dn_length, sw_length]
      · rfl
    · rfl
theorem up_perm : ∀ f (xs : Q) j, j < xs.length → (up f xs j).Perm xs
  | 0, _, _, _ => List.Perm.refl _
  | f + 1, xs, j, h => by
    unfold up
    have hp : par j < xs.length := by unfold par; omega
    split
    · exact List.Perm.refl _
    · split
      · exact (up_perm f _ _ (by rw [sw_length]; exact hp)).trans (sw_perm xs hp h)
      · exact List.Perm.refl _
theorem up_heap : ∀ f (xs : Q) j n, j ≤ f → j < n → n ≤ xs.length → Exc xs j n → Kids xs j n → HeapN (up f xs j) n
  | 0, xs, j, n, hf, hj, hn, he, hk => by
    obtain rfl : j = 0 := by omega
    exact heap_of he hk (fun h => by omega)
  | f + 1, xs, j, n, hf, hj, hn, he, hk => by
    unfold up
    split
    · next e =>
      obtain rfl : j = 0 := by unfold par at e; omega
      exact heap_of he hk (fun h => by omega)
    · next e =>
      have hp0 : 0 < j := by unfold par at e; omega
      have hpj := par_lt hp0
      split
      · next hl =>
        have hjl : j < xs.length := by omega
        have hpl : par j < xs.length := by omega
        have G := g_sw xs hpl hjl
        refine up_heap f _ _ n (by omega) (by omega) (by rw [sw_length]; exact hn) ⟨fun k h0 hk' h1 h2 => ?_, fun k h0 hk' h1 h2 => ?_⟩ (fun k h0 hk' h1 => ?_)
        · rw [G, G]
          have hkj : k ≠ j := by rintro rfl; exact h2 rfl
          rw [if_neg hkj, if_neg h1]
          by_cases hpk : par k = j
          · rw [if_pos hpk]
            exact he.over k h0 hk' hpk hp0
          · rw [if_neg hpk, if_neg h2]
            exact he.other k h0 hk' hkj hpk
        · rw [G, G]
          have hne : par (par j) ≠ j := by unfold par; omega
          have hne2 : par (par j) ≠ par j := by unfold par at *; omega
          rw [if_neg hne, if_neg hne2]
          have hpp : le (g xs (par (par j))) (g xs (par j)) := he.other (par j) h2 (by omega) (by omega) hne
          by_cases hkj : k = j
          · rw [if_pos hkj]; exact hpp
          · rw [if_neg hkj]
            have hkp : k ≠ par j := by have := par_lt h0; omega
            rw [if_neg hkp]
            have := he.other k h0 hk' hkj (by rw [h1]; omega)
            rw [h1] at this
            exact le_trans hpp this
        · rw [G, G, if_neg (show par j ≠ j by omega), if_pos rfl]
          by_cases hkj : k = j
          · rw [if_pos hkj]; exact le_of_lt hl
          · have hkp : k ≠ par j := by have := par_lt h0; omega
            rw [if_neg hkj, if_neg hkp]
            have := he.other k h0 hk' hkj (by rw [h1]; omega)
            rw [h1] at this
            exact le_trans (le_of_lt hl) this
      · next hl => exact heap_of he hk (fun _ => le_of_not_lt hl)
theorem dn_perm : ∀ f (xs : Q) i n, i < xs.length → n ≤ xs.length → (dn f xs i n).1.Perm xs
  | 0, _, _, _, _, _ => List.Perm.refl _
  | f + 1, xs, i, n, h, hn => by
    unfold dn
    split
    · dsimp only
      generalize hj : (if 2 * i + 2 < n ∧ lt (g xs (2 * i + 2)) (g xs (2 * i + 1)) then 2 * i + 2 else 2 * i + 1) = j
      have hjn : j < n := by subst hj; split <;> omega
      split
      · exact (dn_perm f _ _ _ (by rw [sw_length]; omega) (by rw [sw_length]; exact hn)).trans (sw_perm xs h (by omega))
      · exact List.Perm.refl _
    · exact List.Perm.refl _
theorem dn_far : ∀ f (xs : Q) i n, i < n → n ≤ xs.length → ∀ k, n ≤ k → g (dn f xs i n).1 k = g xs k
  | 0, _, _, _, _, _, _, _ => rfl
  | f + 1, xs, i, n, h, hn, k, hk => by
    unfold dn
    split
    · dsimp only
      generalize hj : (if 2 * i + 2 < n ∧ lt (g xs (2 * i + 2)) (g xs (2 * i + 1)) then 2 * i + 2 else 2 * i + 1) = j
      have hjn : j < n := by subst hj; split <;> omega
      split
      · rw [dn_far f _ _ _ hjn (by rw [sw_length]; exact hn) k hk, g_sw xs (by omega) (by omega), if_neg (by omega), if_neg (by omega)]
      · rfl
    · rfl
theorem dn_heap : ∀ f (xs : Q) i n, n ≤ f + i → i < n → n ≤ xs.length → Exc xs i n → Own xs i → HeapN (dn f xs i n).1 n
  | 0, xs, i, n, hf, hi, _, _, _ => by omega
  | f + 1, xs, i, n, hf, hi, hn, he, ho => by
    unfold dn
    split
    · next h1 =>
      dsimp only
      generalize hj : (if 2 * i + 2 < n ∧ lt (g xs (2 * i + 2)) (g xs (2 * i + 1)) then 2 * i + 2 else 2 * i + 1) = j
      have hjn : j < n := by subst hj; split <;> omega
      have hij : i < j := by subst hj; split <;> omega
      have hpj : par j = i := by subst hj; split <;> (unfold par; omega)
      have hmin : ∀ k, 0 < k → k < n → par k = i → le (g xs j) (g xs k) := by
        intro k h0 hkn hpk
        have hk : k = 2 * i + 1 ∨ k = 2 * i + 2 := by unfold par at hpk; omega
        subst hj
        split
        · next h => rcases hk with rfl | rfl
                    · exact le_of_lt h.2
                    · exact le_refl _
        · next h => rcases hk with rfl | rfl
                    · exact le_refl _
                    · exact le_of_not_lt (fun h' => h ⟨hkn, h'⟩)
      have hil : i < xs.length := by omega
      have hjl : j < xs.length := by omega
      have G := g_sw xs hil hjl
      split
      · next hl =>
        refine dn_heap f _ _ n (by omega) hjn (by rw [sw_length]; exact hn) ⟨fun k h0 hk' h1' h2 => ?_, fun k h0 hk' h1' h2 => ?_⟩ (fun h0 => ?_)
        · rw [G, G, if_neg h2, if_neg h1']
          by_cases hki : k = i
          · subst hki
            have hpk := par_lt h0
            rw [if_pos rfl, if_neg (by omega)]
            exact he.over j (by omega) hjn hpj h0
          · rw [if_neg hki]
            by_cases hpk : par k = i
            · rw [if_pos hpk]; exact hmin k h0 hk' hpk
            · rw [if_neg hpk]; exact he.other k h0 hk' hki hpk
        · rw [G, G, hpj, if_neg (by omega), if_pos rfl]
          have := par_lt h0
          rw [if_neg (by omega), if_neg (by omega)]
          have := he.other k h0 hk' (by omega) (by omega)
          rwa [h1'] at this
        · rw [G, G, hpj, if_neg (by omega), if_pos rfl, if_pos rfl]
          exact le_of_lt hl
      · next hl =>
        exact heap_of he (fun k h0 hkn hpk => le_trans (le_of_not_lt hl) (hmin k h0 hkn hpk)) ho
    · next h1 => exact heap_of he (fun k h0 hkn hpk => by unfold par at hpk; omega) ho
theorem root_le {xs : Q} {n : Nat} (h : HeapN xs n) : ∀ k, k < n → le (g xs 0) (g xs k) := by
  intro k
  induction k using Nat.strongRecOn with
  | _ k ih =>
    intro hk
    by_cases h0 : k = 0
    · subst h0; exact le_refl _
    · have hp := par_lt (show 0 < k by omega)
      exact le_trans (ih (par k) hp (by omega)) (h k (by omega) hk)
structure Good (xs l : Q) : Prop where
  heap : HeapN xs xs.length
  perm : xs.Perm l
  sorted : l.Pairwise le
def ins (x : Int) : Q → Q
  | [] => [x]
  | y :: l => if lt x y then x :: y :: l else y :: ins x l
theorem ins_perm (x : Int) : ∀ l, (ins x l).Perm (x :: l)
  | [] => List.Perm.refl _
  | y :: l => by
    unfold ins
    split
    · exact List.Perm.refl _
    · exact (List.Perm.cons _ (ins_perm x l)).trans (List.Perm.swap ..)
theorem ins_sorted (x : Int) : ∀ {l : Q}, l.Pairwise le → (ins x l).Pairwise le
  | [], _ => by simp [ins]
  | y :: l, h => by
    unfold ins
    have h' := List.pairwise_cons.1 h
    split
    · next hl => exact List.pairwise_cons.2 ⟨fun z hz => by
        rcases List.mem_cons.1 hz with rfl | hz
        · exact le_of_lt hl
        · exact le_trans (le_of_lt hl) (h'.1 z hz), h⟩
    · next hl => exact List.pairwise_cons.2 ⟨fun z hz => by
        rcases List.mem_cons.1 ((ins_perm x l).mem_iff.1 hz) with rfl | hz
        · exact le_of_not_lt hl
        · exact h'.1 z hz, ins_sorted x h'.2⟩
theorem take_last {zs : Q} {n : Nat} (h : zs.length = n + 1) : zs = zs.take n ++ [g zs n] := by
  have e : zs.take (n + 1) = zs := List.take_of_length_le (by omega)
  have e2 := List.take_succ_eq_append_getElem (l := zs) (i := n) (by omega)
  rw [e] at e2
  have e3 : g zs n = zs[n]'(by omega) := by simp [g, List.getD_eq_getElem?_getD, List.getElem?_eq_getElem (show n < zs.length by omega)]
  rw [e3]
  exact e2
theorem g_take {zs : Q} {n k : Nat} (h : k < n) : g (zs.take n) k = g zs k := by
  unfold g
  simp [List.getD_eq_getElem?_getD, List.getElem?_take, h]
theorem heap_take {zs : Q} {n : Nat} (h : HeapN zs n) (hn : n ≤ zs.length) : HeapN (zs.take n) (zs.take n).length := by
  intro k h0 hk
  rw [List.length_take] at hk
  rw [g_take (by have := par_lt h0; omega), g_take (by omega)]
  exact h k h0 (by omega)
theorem g_mem {xs : Q} {k : Nat} (h : k < xs.length) : g xs k ∈ xs := by
  have : g xs k = xs[k] := by simp [g, h]
  rw [this]; exact List.getElem_mem h
theorem mem_g {xs : Q} {x : Int} (h : x ∈ xs) : ∃ k, k < xs.length ∧ g xs k = x := by
  obtain ⟨k, hk, rfl⟩ := List.getElem_of_mem h
  exact ⟨k, hk, by simp [g, hk]⟩
theorem Good.head {xs l : Q} {a : Int} (h : Good xs (a :: l)) : g xs 0 = a := by
  have hl : 0 < xs.length := by rw [h.perm.length_eq]; simp
  have h1 : a ∈ xs := h.perm.mem_iff.2 (by simp)
  obtain ⟨k, hk, e⟩ := mem_g h1
  have h2 := root_le h.heap k hk
  rw [e] at h2
  have h3 := h.perm.mem_iff.1 (g_mem hl)
  rcases List.mem_cons.1 h3 with e | h3
  · exact e
  · exact le_antisymm h2 ((List.pairwise_cons.1 h.sorted).1 _ h3)
def popL (xs : Q) : Q := ((dn (xs.length - 1) (sw xs 0 (xs.length - 1)) 0 (xs.length - 1)).1).take (xs.length - 1)
def popV (xs : Q) : Int := g ((dn (xs.length - 1) (sw xs 0 (xs.length - 1)) 0 (xs.length - 1)).1) (xs.length - 1)
theorem exc_sw {xs : Q} {n i : Nat} (h : HeapN xs (n + 1)) (hl : xs.length = n + 1) (hi : i < n) : Exc (sw xs i n) i n := by
  have G := g_sw xs (show i < xs.length by omega) (show n < xs.length by omega)
  refine ⟨fun k h0 hk h1 h2 => ?_, fun k h0 hk hp h0' => ?_⟩
  · have := par_lt h0
    rw [G, G, if_neg (by omega), if_neg h2, if_neg (by omega), if_neg h1]
    exact h k h0 (by omega)
  · have := par_lt h0
    have := par_lt h0'
    rw [G, G, if_neg (by omega), if_neg (by omega), if_neg (by omega), if_neg (by omega)]
    have e1 := h i h0' (by omega)
    have e2 := h k h0 (by omega)
    rw [hp] at e2
    exact le_trans e1 e2
theorem Good.pop {xs l : Q} {a : Int} (h : Good xs (a :: l)) : popV xs = a ∧ Good (popL xs) l := by
  obtain ⟨n, hn⟩ : ∃ n, xs.length = n + 1 := ⟨l.length, by rw [h.perm.length_eq]; simp⟩
  have hh := h.heap
  rw [hn] at hh
  unfold popV popL
  rw [hn, Nat.add_sub_cancel]
  have P : ((dn n (sw xs 0 n) 0 n).1).Perm xs := by
    cases n with
    | zero => exact sw_perm xs (by omega) (by omega)
    | succ m => exact (dn_perm _ _ _ _ (by rw [sw_length]; omega) (by rw [sw_length]; omega)).trans (sw_perm xs (by omega) (by omega))
  have L : ((dn n (sw xs 0 n) 0 n).1).length = n + 1 := by rw [dn_length, sw_length, hn]
  have V : g ((dn n (sw xs 0 n) 0 n).1) n = a := by
    rw [← h.head]
    cases n with
    | zero => rw [show (dn 0 (sw xs 0 0) 0 0).1 = sw xs 0 0 from rfl, g_sw xs (by omega) (by omega)]; simp
    | succ m => rw [dn_far _ _ _ _ (by omega) (by rw [sw_length]; omega) _ (by omega), g_sw xs (by omega) (by omega), if_pos rfl]
  have H : HeapN ((dn n (sw xs 0 n) 0 n).1) n := by
    cases n with
    | zero => intro k h0 hk; omega
    | succ m => exact dn_heap _ _ _ _ (by omega) (by omega) (by rw [sw_length]; omega) (exc_sw hh hn (by omega)) (fun h => by omega)
  refine ⟨V, heap_take H (by omega), ?_, (List.pairwise_cons.1 h.sorted).2⟩
  have := take_last L
  rw [V] at this
  have p2 := (P.trans h.perm)
  rw [this] at p2
  exact List.Perm.cons_inv (((List.perm_append_comm (l₁ := [a])).trans p2))
theorem Good.push {xs l : Q} (h : Good xs l) (x : Int) (f : Nat) (hf : xs.length ≤ f) : Good (up f (xs ++ [x]) xs.length) (ins x l) := by
  have hl : (xs ++ [x]).length = xs.length + 1 := by simp
  refine ⟨?_, (up_perm f _ _ (by omega)).trans ?_, ins_sorted x h.sorted⟩
  · rw [up_length, hl]
    have hg : ∀ k, k < xs.length → g (xs ++ [x]) k = g xs k := fun k hk => by simp [g, List.getD_eq_getElem?_getD, List.getElem?_append_left hk]
    refine up_heap f _ _ _ hf (by omega) (by omega) ⟨fun k h0 hk h1 h2 => ?_, fun k h0 hk hp h0' => ?_⟩ (fun k h0 hk hp => ?_)
    · have := par_lt h0
      rw [hg _ (by omega), hg _ (by omega)]
      exact h.heap k h0 (by omega)
    · have := par_lt h0; omega
    · have := par_lt h0; omega
  · exact (List.perm_append_comm (l₂ := [x])).trans ((List.Perm.cons x h.perm).trans (ins_perm x l).symm)
end Go.Proofs.Ytkeadpichlgagaa.Wv
namespace Go.Proofs.Ytkeadpichlgagaa.Wv
set_option linter.unusedVariables false
set_option linter.unusedSimpArgs false
abbrev Gr := List (List Int)
def row (g : Gr) (n : Int) : List Int := g.getD n.toNat []
def rng (N : Nat) : List Int := (List.range N).map (fun i : Nat => (i : Int))
theorem mem_rng {N : Nat} {x : Int} : x ∈ rng N ↔ 0 ≤ x ∧ x < N := by
  simp only [rng, List.mem_map, List.mem_range]
  constructor
  · rintro ⟨i, h, e⟩; omega
  · intro h; exact ⟨x.toNat, by omega, by omega⟩
theorem rng_lt (N : Nat) : (rng N).Pairwise (· < ·) := by
  unfold rng
  rw [List.pairwise_map]
  exact List.pairwise_lt_range.imp (fun h => by omega)
theorem nodup_of_lt {l : List Int} (h : l.Pairwise (· < ·)) : l.Nodup := h.imp (fun h => by omega)
theorem rng_nodup (N : Nat) : (rng N).Nodup := nodup_of_lt (rng_lt N)
theorem rng_length (N : Nat) : (rng N).length = N := by simp [rng]
theorem rng_succ (N : Nat) : rng (N + 1) = rng N ++ [(N : Int)] := by simp [rng, List.range_succ]
def chkRow (N n : Int) : List Int → List Int → Int
  | _, [] => 0
  | seen, e :: r => if e < 0 ∨ N ≤ e ∨ e = n then 110 else if e ∈ seen then 113 else chkRow N n (seen ++ [e]) r
def chkG (N : Int) : Int → List (List Int) → Int
  | _, [] => 0
  | n, l :: r => if chkRow N n [] l ≠ 0 then chkRow N n [] l else chkG N (n + 1) r
def listsE (g : Gr) : Int := chkG g.length 0 g
theorem chkRow_ok {N n : Int} : ∀ {l seen : List Int}, chkRow N n seen l = 0 → (∀ e ∈ l, 0 ≤ e ∧ e < N ∧ e ≠ n) ∧ (seen.Nodup → (seen ++ l).Nodup)
  | [], seen, _ => ⟨fun e h => (by cases h), fun h => (by simpa using h)⟩
  | e :: r, seen, h => by
    unfold chkRow at h
    split at h
    · omega
    · rename_i h1
      split at h
      · omega
      · rename_i h2
        obtain ⟨a, b⟩ := chkRow_ok h
        refine ⟨fun x hx => ?_, fun hs => ?_⟩
        · rcases List.mem_cons.1 hx with rfl | hx
          · omega
          · exact a x hx
        · have := b (by rw [List.nodup_append]; exact ⟨hs, by simp, fun x hx y hy => by simp at hy; subst hy; rintro rfl; exact h2 hx⟩)
          simpa using this
theorem chkG_ok {N : Int} : ∀ {l : Gr} {n : Int}, chkG N n l = 0 → ∀ (j : Nat) (hj : j < l.length), chkRow N (n + j) [] l[j] = 0
  | [], n, _, j, hj => by simp at hj
  | l :: r, n, h, j, hj => by
    unfold chkG at h
    split at h
    · rename_i h1; exact absurd h h1
    · rename_i h1
      cases j with
      | zero => simpa using h1
      | succ j =>
        have := chkG_ok h j (by simpa using hj)
        rw [show n + ((j + 1 : Nat) : Int) = n + 1 + j by omega]
        simpa using this
structure Ok (g : Gr) : Prop where
  at' : ∀ n : Int, 0 ≤ n → n < g.length → ∀ e ∈ row g n, 0 ≤ e ∧ e < g.length ∧ e ≠ n
  nd : ∀ n : Int, 0 ≤ n → n < g.length → (row g n).Nodup
theorem row_at (g : Gr) {j : Nat} (h : j < g.length) : row g (j : Int) = g[j] := by simp [row, h]
theorem ok_of {g : Gr} (h : listsE g = 0) : Ok g := by
  have H : ∀ n : Int, 0 ≤ n → n < g.length → chkRow g.length n [] (row g n) = 0 := fun n h0 h1 => by
    have := chkG_ok h n.toNat (by omega)
    rw [← row_at g (show n.toNat < g.length by omega), Int.toNat_of_nonneg h0, Int.zero_add] at this
    exact this
  exact ⟨fun n h0 h1 => (chkRow_ok (H n h0 h1)).1, fun n h0 h1 => by simpa using (chkRow_ok (H n h0 h1)).2 List.nodup_nil⟩
def isR (g : Gr) (out : List Int) (n : Int) : Bool := !(out.contains n) && (row g n).all (fun e => out.contains e)
def rdy (g : Gr) (out : List Int) : List Int := (rng g.length).filter (isR g out)
def ordL (g : Gr) : Nat → List Int → List Int
  | 0, out => out
  | k + 1, out => match rdy g out with
    | [] => out
    | a :: _ => ordL g k (out ++ [a])
def ordA (g : Gr) : List Int := ordL g g.length []
def ordE (g : Gr) : Int := if listsE g ≠ 0 then listsE g else if (ordA g).length < g.length then 111 else 0
def cnt (g : Gr) (out : List Int) (y : Int) : Nat := ((row g y).filter (fun e => !(out.contains e))).length
def downs (g : Gr) (a : Int) : List Int := (rng g.length).filter (fun y => (row g y).contains a)
theorem rdy_sorted (g : Gr) (out : List Int) : (rdy g out).Pairwise (· < ·) := (rng_lt _).filter _
theorem mem_rdy {g : Gr} {out : List Int} {x : Int} : x ∈ rdy g out ↔ 0 ≤ x ∧ x < g.length ∧ x ∉ out ∧ ∀ e ∈ row g x, e ∈ out := by
  unfold rdy isR
  rw [List.mem_filter, mem_rng]
  simp [and_assoc]
theorem cnt_zero {g : Gr} {out : List Int} {x : Int} : cnt g out x = 0 ↔ ∀ e ∈ row g x, e ∈ out := by
  unfold cnt
  rw [List.length_eq_zero_iff, List.filter_eq_nil_iff]
  simp
theorem mem_downs {g : Gr} {a x : Int} : x ∈ downs g a ↔ 0 ≤ x ∧ x < g.length ∧ a ∈ row g x := by
  unfold downs
  rw [List.mem_filter, mem_rng]
  simp [and_assoc]
theorem filter_count_step {a : Int} {out : List Int} (ha : a ∉ out) : ∀ {l : List Int}, l.Nodup → (l.filter (fun e => !((out ++ [a]).contains e))).length + (if a ∈ l then 1 else 0) = (l.filter (fun e => !(out.contains e))).length
  | [], _ => by simp
  | x :: l, h => by
    obtain ⟨h1, h2⟩ := List.nodup_cons.1 h
    have ih := filter_count_step ha h2
    by_cases hx : x = a
    · subst hx
      rw [if_neg h1] at ih
      have e1 : (!((out ++ [x]).contains x)) = false := by simp
      have e2 : (!(out.contains x)) = true := by simp [ha]
      rw [List.filter_cons, List.filter_cons, e1, e2, if_pos rfl, if_pos List.mem_cons_self, if_neg (by decide), List.length_cons]
      omega
    · have e : (!((out ++ [a]).contains x)) = (!(out.contains x)) := by
        congr 1
        rw [Bool.eq_iff_iff]
        simp [hx]
      have m : (a ∈ x :: l) ↔ a ∈ l := by simp [Ne.symm hx]
      rw [List.filter_cons, List.filter_cons, e]
      simp only [m]
      split
      · rw [List.length_cons, List.length_cons]; omega
      · exact ih
theorem cnt_step {g : Gr} (h : Ok g) {out : List Int} {a y : Int} (ha : a ∉ out) (h0 : 0 ≤ y) (h1 : y < g.length) : cnt g (out ++ [a]) y + (if a ∈ row g y then 1 else 0) = cnt g out y :=
  filter_count_step ha (h.nd y h0 h1)
theorem nodup_perm {l m : List Int} (h1 : l.Nodup) (h2 : m.Nodup) (h : ∀ x, x ∈ l ↔ x ∈ m) : l.Perm m := (List.perm_ext_iff_of_nodup h1 h2).2 h
theorem sorted_eq {l m : List Int} (hp : l.Perm m) (h1 : l.Pairwise le) (h2 : m.Pairwise le) : l = m :=
  hp.eq_of_pairwise (fun a b _ _ h h' => le_antisymm h h') h1 h2
structure St (g : Gr) (out : List Int) : Prop where
  nd : out.Nodup
  inn : ∀ x ∈ out, 0 ≤ x ∧ x < g.length
  clo : ∀ x ∈ out, ∀ e ∈ row g x, e ∈ out
theorem St.nil (g : Gr) : St g [] := ⟨List.nodup_nil, fun x h => (by cases h), fun x h => (by cases h)⟩
theorem St.next {g : Gr} {out : List Int} {a : Int} (h : St g out) (ha : a ∈ rdy g out) : St g (out ++ [a]) := by
  obtain ⟨a0, a1, a2, a3⟩ := mem_rdy.1 ha
  refine ⟨?_, fun x hx => ?_, fun x hx e he => ?_⟩
  · rw [List.nodup_append]
    exact ⟨h.nd, by simp, fun x hx y hy => by simp at hy; subst hy; rintro rfl; exact a2 hx⟩
  · rcases List.mem_append.1 hx with hx | hx
    · exact h.inn x hx
    · simp at hx; subst hx; exact ⟨a0, a1⟩
  · rcases List.mem_append.1 hx with hx | hx
    · exact List.mem_append_left _ (h.clo x hx e he)
    · simp at hx; subst hx; exact List.mem_append_left _ (a3 e he)
theorem length_le_of_nodup {l : List Int} {N : Nat} (h : l.Nodup) (hi : ∀ x ∈ l, 0 ≤ x ∧ x < N) : l.length ≤ N := by
  have hp : l.Perm ((rng N).filter (fun x => l.contains x)) := nodup_perm h ((rng_nodup N).filter _) (fun x => by
    rw [List.mem_filter]
    exact ⟨fun hx => ⟨mem_rng.2 (hi x hx), by simpa using hx⟩, fun hx => by simpa using hx.2⟩)
  rw [hp.length_eq]
  exact Nat.le_trans (List.length_filter_le _ _) (by rw [rng_length]; exact Nat.le_refl _)
theorem St.len {g : Gr} {out : List Int} (h : St g out) : out.length ≤ g.length := length_le_of_nodup h.nd h.inn
theorem ready_next {g : Gr} (hk : Ok g) {out t : List Int} {a : Int} (h : St g out) (hr : rdy g out = a :: t) :
    (t ++ (downs g a).filter (fun y => decide (cnt g (out ++ [a]) y = 0))).Perm (rdy g (out ++ [a])) := by
  have hs := rdy_sorted g out
  rw [hr] at hs
  obtain ⟨hs1, hs2⟩ := List.pairwise_cons.1 hs
  have ha : a ∈ rdy g out := by rw [hr]; exact List.mem_cons_self
  obtain ⟨a0, a1, a2, a3⟩ := mem_rdy.1 ha
  have hat : a ∉ t := fun h => by have := hs1 a h; omega
  have ht : ∀ x ∈ t, x ∈ rdy g out := fun x hx => by rw [hr]; exact List.mem_cons_of_mem _ hx
  refine nodup_perm ?_ (nodup_of_lt (rdy_sorted _ _)) (fun x => ?_)
  · rw [List.nodup_append]
    refine ⟨nodup_of_lt hs2, ((rng_nodup _).filter _).filter _, fun x hx y hy => ?_⟩
    rintro rfl
    obtain ⟨_, _, _, x3⟩ := mem_rdy.1 (ht x hx)
    have hd := mem_downs.1 (List.mem_filter.1 hy).1
    exact a2 (x3 a hd.2.2)
  · rw [List.mem_append, List.mem_filter, mem_downs, mem_rdy, decide_eq_true_eq, cnt_zero]
    constructor
    · rintro (hx | ⟨⟨x0, x1, x2⟩, hx⟩)
      · obtain ⟨x0, x1, x2, x3⟩ := mem_rdy.1 (ht x hx)
        refine ⟨x0, x1, ?_, fun e he => List.mem_append_left _ (x3 e he)⟩
        simp only [List.mem_append, List.mem_singleton, not_or]
        exact ⟨x2, fun e => hat (e ▸ hx)⟩
      · refine ⟨x0, x1, ?_, hx⟩
        simp only [List.mem_append, List.mem_singleton, not_or]
        exact ⟨fun hxo => a2 (h.clo x hxo a x2), fun e => by subst e; exact (hk.at' x x0 x1 x x2).2.2 rfl⟩
    · rintro ⟨x0, x1, x2, x3⟩
      simp only [List.mem_append, List.mem_singleton, not_or] at x2
      by_cases hax : a ∈ row g x
      · exact .inr ⟨⟨x0, x1, hax⟩, x3⟩
      · left
        have : x ∈ rdy g out := mem_rdy.2 ⟨x0, x1, x2.1, fun e he => by
          rcases List.mem_append.1 (x3 e he) with h | h
          · exact h
          · simp at h; subst h; exact absurd he hax⟩
        rw [hr] at this
        rcases List.mem_cons.1 this with h | h
        · exact absurd h x2.2
        · exact h
def insA (t : List Int) (ys : List Int) : List Int := ys.foldl (fun l y => ins y l) t
theorem insA_snoc (t ys : List Int) (y : Int) : insA t (ys ++ [y]) = ins y (insA t ys) := by simp [insA, List.foldl_append]
theorem insA_perm : ∀ (ys t : List Int), (insA t ys).Perm (t ++ ys)
  | [], t => by simp [insA]
  | y :: ys, t => by
    have h := insA_perm ys (ins y t)
    refine h.trans (((ins_perm y t).append_right ys).trans ?_)
    simpa using (List.perm_middle (a := y) (l₁ := t) (l₂ := ys)).symm
theorem insA_sorted : ∀ (ys : List Int) {t : List Int}, t.Pairwise le → (insA t ys).Pairwise le
  | [], t, h => h
  | y :: ys, t, h => insA_sorted ys (ins_sorted y h)
theorem le_of_lts {l : List Int} (h : l.Pairwise (· < ·)) : l.Pairwise le := h.imp (fun h => by unfold le; omega)
theorem insA_ready {g : Gr} (hk : Ok g) {out t : List Int} {a : Int} (h : St g out) (hr : rdy g out = a :: t) :
    insA t ((downs g a).filter (fun y => decide (cnt g (out ++ [a]) y = 0))) = rdy g (out ++ [a]) := by
  have hs := rdy_sorted g out
  rw [hr] at hs
  exact sorted_eq ((insA_perm _ _).trans (ready_next hk h hr)) (insA_sorted _ (le_of_lts (List.pairwise_cons.1 hs).2)) (le_of_lts (rdy_sorted _ _))
theorem ordL_st {g : Gr} : ∀ {k : Nat} {out : List Int}, St g out → St g (ordL g k out)
  | 0, out, h => h
  | k + 1, out, h => by
    unfold ordL
    split
    · exact h
    · rename_i a t e; exact ordL_st (h.next (by rw [e]; exact List.mem_cons_self))
theorem ordA_st (g : Gr) : St g (ordA g) := ordL_st (St.nil g)
end Go.Proofs.Ytkeadpichlgagaa.Wv
namespace Go.Proofs.Ytkeadpichlgagaa.Wv
set_option linter.unusedVariables false
set_option linter.unusedSimpArgs false
theorem ordA_len (g : Gr) : (ordA g).length ≤ g.length := (ordA_st g).len
end Go.Proofs.Ytkeadpichlgagaa.Wv
