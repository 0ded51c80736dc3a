/- timer: a heap of alarms against the sorted list of them, in plain Lean. -/
import Derived.Test.YtcdlccnpbhjgkaaTiP
namespace Go.Proofs.Ytcdlccnpbhjgkaa.Ti
open Go.Proofs.Ytcdlccnpbhjgkaa.PTimerAlarms
set_option linter.unusedVariables false
set_option linter.unusedSimpArgs false

/-- xs is a heap of the alarms l, which stand in order, no key twice. -/
structure Good (xs l : Q) : Prop where
  heap : HeapN xs xs.length
  perm : xs.Perm l
  sorted : l.Pairwise le
  nd : (l.map (·.f1)).Nodup

def ins (x : S126) : Q → Q
  | [] => [x]
  | y :: l => if lt x y then x :: y :: l else y :: ins x l
theorem ins_perm (x : S126) : ∀ l, (ins x l).Perm (x :: l)
  | [] => List.Perm.refl _
  | y :: l => by
    unfold ins
    split
    · exact List.Perm.refl _
    · exact (List.Perm.cons _ (ins_perm x l)).trans (List.Perm.swap ..)
theorem ins_sorted (x : S126) : ∀ {l : Q}, l.Pairwise le → (ins x l).Pairwise le
  | [], _ => by simp [ins]
  | y :: l, h => by
    unfold ins
    have h' := List.pairwise_cons.1 h
    split
    · next hl => exact List.pairwise_cons.2 ⟨fun z hz => by
        rcases List.mem_cons.1 hz with rfl | hz
        · exact le_of_lt hl
        · exact le_trans (le_of_lt hl) (h'.1 z hz), h⟩
    · next hl => exact List.pairwise_cons.2 ⟨fun z hz => by
        rcases List.mem_cons.1 ((ins_perm x l).mem_iff.1 hz) with rfl | hz
        · exact le_of_not_lt hl
        · exact h'.1 z hz, ins_sorted x h'.2⟩

def without (k : Int) (l : Q) : Q := l.filter (fun a => decide (a.f1 ≠ k))
theorem without_sorted {k : Int} {l : Q} (h : l.Pairwise le) : (without k l).Pairwise le := h.filter _
theorem without_nd {k : Int} {l : Q} (h : (l.map (·.f1)).Nodup) : ((without k l).map (·.f1)).Nodup := by
  unfold without
  exact (List.filter_sublist.map _).nodup h
theorem without_key {k : Int} {l : Q} : k ∉ (without k l).map (·.f1) := by
  unfold without
  simp
theorem ins_nd {x : S126} {l : Q} (h : (l.map (·.f1)).Nodup) (hx : x.f1 ∉ l.map (·.f1)) : ((ins x l).map (·.f1)).Nodup :=
  (((ins_perm x l).map _).nodup_iff).2 (by simpa using ⟨by simpa using hx, h⟩)

theorem take_last {zs : Q} {n : Nat} (h : zs.length = n + 1) : zs = zs.take n ++ [g zs n] := by
  have e : zs.take (n + 1) = zs := List.take_of_length_le (by omega)
  have e2 := List.take_succ_eq_append_getElem (l := zs) (i := n) (by omega)
  rw [e] at e2
  have e3 : g zs n = zs[n]'(by omega) := by simp [g, List.getD_eq_getElem?_getD, List.getElem?_eq_getElem (show n < zs.length by omega)]
  rw [e3]
  exact e2
theorem g_take {zs : Q} {n k : Nat} (h : k < n) : g (zs.take n) k = g zs k := by
  unfold g
  simp [List.getD_eq_getElem?_getD, List.getElem?_take, h]
theorem heap_take {zs : Q} {n : Nat} (h : HeapN zs n) (hn : n ≤ zs.length) : HeapN (zs.take n) (zs.take n).length := by
  intro k h0 hk
  rw [List.length_take] at hk
  rw [g_take (by have := par_lt h0; omega), g_take (by omega)]
  exact h k h0 (by omega)
theorem g_mem {xs : Q} {k : Nat} (h : k < xs.length) : g xs k ∈ xs := by
  have : g xs k = xs[k] := by simp [g, h]
  rw [this]; exact List.getElem_mem h
theorem mem_g {xs : Q} {x : S126} (h : x ∈ xs) : ∃ k, k < xs.length ∧ g xs k = x := by
  obtain ⟨k, hk, rfl⟩ := List.getElem_of_mem h
  exact ⟨k, hk, by simp [g, hk]⟩

theorem Good.head {xs l : Q} {a : S126} (h : Good xs (a :: l)) : g xs 0 = a := by
  have hl : 0 < xs.length := by rw [h.perm.length_eq]; simp
  have h1 : a ∈ xs := h.perm.mem_iff.2 (by simp)
  obtain ⟨k, hk, e⟩ := mem_g h1
  have h2 := root_le h.heap k hk
  rw [e] at h2
  have h3 := h.perm.mem_iff.1 (g_mem hl)
  rcases List.mem_cons.1 h3 with e | h3
  · exact e
  · exact le_antisymm h2 ((List.pairwise_cons.1 h.sorted).1 _ h3)

def popL (xs : Q) : Q := ((dn (xs.length - 1) (sw xs 0 (xs.length - 1)) 0 (xs.length - 1)).1).take (xs.length - 1)
def popV (xs : Q) : S126 := g ((dn (xs.length - 1) (sw xs 0 (xs.length - 1)) 0 (xs.length - 1)).1) (xs.length - 1)

theorem exc_sw {xs : Q} {n i : Nat} (h : HeapN xs (n + 1)) (hl : xs.length = n + 1) (hi : i < n) : Exc (sw xs i n) i n := by
  have G := g_sw xs (show i < xs.length by omega) (show n < xs.length by omega)
  refine ⟨fun k h0 hk h1 h2 => ?_, fun k h0 hk hp h0' => ?_⟩
  · have := par_lt h0
    rw [G, G, if_neg (by omega), if_neg h2, if_neg (by omega), if_neg h1]
    exact h k h0 (by omega)
  · have := par_lt h0
    have := par_lt h0'
    rw [G, G, if_neg (by omega), if_neg (by omega), if_neg (by omega), if_neg (by omega)]
    have e1 := h i h0' (by omega)
    have e2 := h k h0 (by omega)
    rw [hp] at e2
    exact le_trans e1 e2

theorem Good.pop {xs l : Q} {a : S126} (h : Good xs (a :: l)) : popV xs = a ∧ Good (popL xs) l := by
  obtain ⟨n, hn⟩ : ∃ n, xs.length = n + 1 := ⟨l.length, by rw [h.perm.length_eq]; simp⟩
  have hh := h.heap
  rw [hn] at hh
  unfold popV popL
  rw [hn, Nat.add_sub_cancel]
  have P : ((dn n (sw xs 0 n) 0 n).1).Perm xs := by
    cases n with
    | zero => exact sw_perm xs (by omega) (by omega)
    | succ m => exact (dn_perm _ _ _ _ (by rw [sw_length]; omega) (by rw [sw_length]; omega)).trans (sw_perm xs (by omega) (by omega))
  have L : ((dn n (sw xs 0 n) 0 n).1).length = n + 1 := by rw [dn_length, sw_length, hn]
  have V : g ((dn n (sw xs 0 n) 0 n).1) n = a := by
    rw [← h.head]
    cases n with
    | zero => rw [show (dn 0 (sw xs 0 0) 0 0).1 = sw xs 0 0 from rfl, g_sw xs (by omega) (by omega)]; simp
    | succ m => rw [dn_far _ _ _ _ (by omega) (by rw [sw_length]; omega) _ (by omega), g_sw xs (by omega) (by omega), if_pos rfl]
  have H : HeapN ((dn n (sw xs 0 n) 0 n).1) n := by
    cases n with
    | zero => intro k h0 hk; omega
    | succ m => exact dn_heap _ _ _ _ (by omega) (by omega) (by rw [sw_length]; omega) (exc_sw hh hn (by omega)) (fun h => by omega)
  refine ⟨V, heap_take H (by omega), ?_, (List.pairwise_cons.1 h.sorted).2, (List.nodup_cons.1 h.nd).2⟩
  have := take_last L
  rw [V] at this
  have p2 := (P.trans h.perm)
  rw [this] at p2
  exact List.Perm.cons_inv (((List.perm_append_comm (l₁ := [a])).trans p2))

theorem Good.push {xs l : Q} (h : Good xs l) (x : S126) (hx : x.f1 ∉ l.map (·.f1)) (f : Nat) (hf : xs.length ≤ f) : Good (up f (xs ++ [x]) xs.length) (ins x l) := by
  have hl : (xs ++ [x]).length = xs.length + 1 := by simp
  refine ⟨?_, (up_perm f _ _ (by omega)).trans ?_, ins_sorted x h.sorted, ins_nd h.nd hx⟩
  · rw [up_length, hl]
    have hg : ∀ k, k < xs.length → g (xs ++ [x]) k = g xs k := fun k hk => by simp [g, List.getD_eq_getElem?_getD, List.getElem?_append_left hk]
    refine up_heap f _ _ _ hf (by omega) (by omega) ⟨fun k h0 hk h1 h2 => ?_, fun k h0 hk hp h0' => ?_⟩ (fun k h0 hk hp => ?_)
    · have := par_lt h0
      rw [hg _ (by omega), hg _ (by omega)]
      exact h.heap k h0 (by omega)
    · have := par_lt h0; omega
    · have := par_lt h0; omega
  · exact (List.perm_append_comm (l₂ := [x])).trans ((List.Perm.cons x h.perm).trans (ins_perm x l).symm)

/-- heap.Fix. -/
def fixL (xs : Q) (i : Nat) : Q := if i < (dn xs.length xs i xs.length).2 then (dn xs.length xs i xs.length).1 else up xs.length (dn xs.length xs i xs.length).1 i
theorem fix_heap {xs : Q} {i : Nat} (hi : i < xs.length) (he : Exc xs i xs.length) : HeapN (fixL xs i) xs.length ∧ (fixL xs i).Perm xs := by
  unfold fixL
  rcases dn_fix xs.length xs i xs.length (by omega) hi (Nat.le_refl _) he with ⟨h1, h2⟩ | ⟨h1, h2⟩
  · rw [if_pos h1]; exact ⟨h2, dn_perm _ _ _ _ hi (Nat.le_refl _)⟩
  · rw [h1, if_neg (Nat.lt_irrefl _)]
    exact ⟨up_heap _ _ _ _ (by omega) hi (Nat.le_refl _) he h2, up_perm _ _ _ hi⟩
theorem set_split {xs : Q} {i : Nat} (hi : i < xs.length) (x : S126) : xs = xs.take i ++ g xs i :: xs.drop (i + 1) ∧ xs.set i x = xs.take i ++ x :: xs.drop (i + 1) := by
  have e : g xs i = xs[i] := by simp [g, hi]
  constructor
  · rw [e]; simp
  · rw [List.set_eq_take_append_cons_drop, if_pos hi]
theorem without_at {xs : Q} {i : Nat} (hi : i < xs.length) (nd : (xs.map (·.f1)).Nodup) : without (g xs i).f1 xs = xs.take i ++ xs.drop (i + 1) := by
  have hs := (set_split hi z126).1
  generalize g xs i = x at hs ⊢
  generalize xs.take i = u at hs ⊢
  generalize xs.drop (i + 1) = v at hs ⊢
  subst hs
  simp only [List.map_append, List.map_cons] at nd
  have hn := List.nodup_append.1 nd
  have hn2 := List.nodup_cons.1 hn.2.1
  unfold without
  rw [List.filter_append, List.filter_cons, if_neg (by simp)]
  congr 1
  · refine List.filter_eq_self.2 (fun a ha => ?_)
    simp only [decide_eq_true_eq]
    intro e
    exact hn.2.2 _ (List.mem_map_of_mem ha) _ (List.mem_cons_self) e
  · refine List.filter_eq_self.2 (fun a ha => ?_)
    simp only [decide_eq_true_eq]
    intro e
    exact hn2.1 (e ▸ List.mem_map_of_mem ha)
theorem Good.xnd {xs l : Q} (h : Good xs l) : (xs.map (·.f1)).Nodup := ((h.perm.map _).nodup_iff).2 h.nd
theorem without_perm {xs l : Q} (h : xs.Perm l) (k : Int) : (without k xs).Perm (without k l) := h.filter _

theorem Good.fix {xs l : Q} (h : Good xs l) {i : Nat} (hi : i < xs.length) (t : Int) : Good (fixL (xs.set i ⟨t, (g xs i).f1⟩) i) (ins ⟨t, (g xs i).f1⟩ (without (g xs i).f1 l)) := by
  have hl : (xs.set i ⟨t, (g xs i).f1⟩).length = xs.length := by simp
  have G : ∀ k, k ≠ i → g (xs.set i ⟨t, (g xs i).f1⟩) k = g xs k := fun k hk => by simp [g, List.getD_eq_getElem?_getD, List.getElem?_set, Ne.symm hk]
  have he : Exc (xs.set i ⟨t, (g xs i).f1⟩) i (xs.set i ⟨t, (g xs i).f1⟩).length := by
    rw [hl]
    have e := exc_of_heap h.heap i hi
    refine ⟨fun k h0 hk h1 h2 => ?_, fun k h0 hk hp h0' => ?_⟩
    · rw [G _ h1, G _ h2]; exact e.other k h0 hk h1 h2
    · have := par_lt h0'
      have := par_lt h0
      rw [G _ (by omega), G _ (by omega)]; exact e.over k h0 hk hp h0'
  obtain ⟨h1, h2⟩ := fix_heap (by rw [hl]; exact hi) he
  refine ⟨by rw [h2.length_eq]; exact h1, h2.trans ?_, ins_sorted _ (without_sorted h.sorted), ins_nd (without_nd h.nd) without_key⟩
  rw [(set_split hi _).2]
  refine (List.perm_middle).trans ?_
  rw [← without_at hi h.xnd]
  exact (List.Perm.cons _ (without_perm h.perm _)).trans (ins_perm _ _).symm

/-- heap.Remove. -/
def remL (xs : Q) (i : Nat) : Q :=
  if xs.length - 1 = i then xs.take (xs.length - 1)
  else if i < (dn (xs.length - 1) (sw xs i (xs.length - 1)) i (xs.length - 1)).2 then ((dn (xs.length - 1) (sw xs i (xs.length - 1)) i (xs.length - 1)).1).take (xs.length - 1)
  else (up (xs.length - 1) (dn (xs.length - 1) (sw xs i (xs.length - 1)) i (xs.length - 1)).1 i).take (xs.length - 1)
theorem Good.remove {xs l : Q} (h : Good xs l) {i : Nat} (hi : i < xs.length) : Good (remL xs i) (without (g xs i).f1 l) := by
  obtain ⟨n, hn⟩ : ∃ n, xs.length = n + 1 := ⟨xs.length - 1, by omega⟩
  have hh := h.heap
  rw [hn] at hh
  have hw : (without (g xs i).f1 xs).Perm (without (g xs i).f1 l) := without_perm h.perm _
  rw [without_at hi h.xnd] at hw
  -- what is taken, of a row that holds all and ends with element i
  have K : ∀ zs : Q, zs.Perm xs → zs.length = n + 1 → g zs n = g xs i → HeapN zs n → Good (zs.take n) (without (g xs i).f1 l) := by
    intro zs hp hzl hz hH
    refine ⟨heap_take hH (by omega), ?_, without_sorted h.sorted, without_nd h.nd⟩
    have e := take_last hzl
    rw [hz] at e
    have hs := (set_split hi z126).1
    refine List.Perm.trans ?_ hw
    generalize g xs i = x at hs e
    rw [e, hs] at hp
    exact List.Perm.cons_inv (((List.perm_append_comm (l₁ := [x])).trans hp).trans List.perm_middle)
  unfold remL
  rw [hn, Nat.add_sub_cancel]
  split
  · next e =>
    subst e
    exact K xs (List.Perm.refl _) hn rfl (fun k h0 hk => hh k h0 (by omega))
  · next e =>
    have hin : i < n := by omega
    have hx := exc_sw hh hn hin
    have SP := sw_perm xs hi (show n < xs.length by omega)
    have SL : (sw xs i n).length = n + 1 := by rw [sw_length, hn]
    have SV : g (sw xs i n) n = g xs i := by rw [g_sw xs hi (by omega), if_pos rfl]
    have DL : ((dn n (sw xs i n) i n).1).length = n + 1 := by rw [dn_length, SL]
    have DP := dn_perm n (sw xs i n) i n (by omega) (by omega)
    have DV : g ((dn n (sw xs i n) i n).1) n = g xs i := by rw [dn_far _ _ _ _ hin (by omega) _ (Nat.le_refl _), SV]
    rcases dn_fix n (sw xs i n) i n (by omega) hin (by omega) hx with ⟨h1, h2⟩ | ⟨h1, h2⟩
    · rw [if_pos h1]
      exact K _ (DP.trans SP) DL DV h2
    · rw [h1, if_neg (Nat.lt_irrefl _)]
      dsimp only
      exact K _ ((up_perm _ _ _ (by omega)).trans SP) (by rw [up_length, SL]) (by rw [up_far _ _ _ (by omega) _ hin, SV]) (up_heap _ _ _ _ (by omega) hin (by omega) hx h2)

theorem Good.nil : Good [] [] := ⟨fun k h0 hk => by simp at hk, List.Perm.refl _, List.Pairwise.nil, by simp⟩

/-- Where a key stands. -/
def findL (k : Int) : Q → Nat → Option Nat
  | [], _ => none
  | x :: xs, i => if x.f1 = k then some i else findL k xs (i + 1)

end Go.Proofs.Ytcdlccnpbhjgkaa.Ti
