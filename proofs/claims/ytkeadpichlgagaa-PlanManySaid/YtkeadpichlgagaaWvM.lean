/- wave: levels, and who must come behind, in plain Lean. -/
import Derived.Test.YtkeadpichlgagaaWvL
namespace Go.Proofs.Ytkeadpichlgagaa.Wv
set_option linter.unusedVariables false
set_option linter.unusedSimpArgs false

/-- A node's level, looked for so deep. -/
def lvF (g : Gr) : Nat → Int → Int
  | 0, _ => 0
  | k + 1, n => (row g n).foldl (fun b x => if lvF g k x + 1 > b then lvF g k x + 1 else b) 0
/-- Must a node come behind another, looked for so deep? -/
def ldF (g : Gr) (s : Int) : Nat → Int → Bool
  | 0, _ => false
  | k + 1, n => (row g n).any (fun e => e == s || ldF g s k e)
def lev (g : Gr) (n : Int) : Int := lvF g (g.length + 1) n
def ld (g : Gr) (s n : Int) : Bool := ldF g s (g.length + 1) n

theorem foldl_congr {α β : Type} {f f' : β → α → β} : ∀ {l : List α} {b : β}, (∀ x ∈ l, ∀ b, f b x = f' b x) → l.foldl f b = l.foldl f' b
  | [], b, _ => rfl
  | x :: l, b, h => by
    rw [List.foldl_cons, List.foldl_cons, h x List.mem_cons_self]
    exact foldl_congr (fun y hy => h y (List.mem_cons_of_mem _ hy))
theorem any_congr' {α : Type} {f f' : α → Bool} : ∀ {l : List α}, (∀ x ∈ l, f x = f' x) → l.any f = l.any f'
  | [], _ => rfl
  | x :: l, h => by
    rw [List.any_cons, List.any_cons, h x List.mem_cons_self, any_congr' (fun y hy => h y (List.mem_cons_of_mem _ hy))]
/-- Elders stand ahead. -/
theorem elder_at {g : Gr} {i : Nat} (hi : i < (ordA g).length) {e : Int} (he : e ∈ row g (ordA g)[i]) : ∃ j, ∃ hj : j < (ordA g).length, j < i ∧ (ordA g)[j] = e := by
  have h := (ordA_take hi).2 e he
  obtain ⟨j, hj, rfl⟩ := List.getElem_of_mem h
  rw [List.length_take] at hj
  exact ⟨j, by omega, by omega, by rw [List.getElem_take]⟩
theorem lvF_fuel {g : Gr} : ∀ (k k' i : Nat) (hi : i < (ordA g).length), i < k → i < k' → lvF g k (ordA g)[i] = lvF g k' (ordA g)[i]
  | 0, _, _, _, h, _ => by omega
  | _ + 1, 0, _, _, _, h => by omega
  | k + 1, k' + 1, i, hi, h, h' => by
    unfold lvF
    refine foldl_congr (fun e he b => ?_)
    obtain ⟨j, hj, hji, rfl⟩ := elder_at hi he
    rw [lvF_fuel k k' j hj (by omega) (by omega)]
theorem ldF_fuel {g : Gr} {s : Int} : ∀ (k k' i : Nat) (hi : i < (ordA g).length), i < k → i < k' → ldF g s k (ordA g)[i] = ldF g s k' (ordA g)[i]
  | 0, _, _, _, h, _ => by omega
  | _ + 1, 0, _, _, _, h => by omega
  | k + 1, k' + 1, i, hi, h, h' => by
    unfold ldF
    refine any_congr' (fun e he => ?_)
    obtain ⟨j, hj, hji, rfl⟩ := elder_at hi he
    rw [ldF_fuel k k' j hj (by omega) (by omega)]
theorem ordA_len (g : Gr) : (ordA g).length ≤ g.length := (ordA_st g).len
theorem lev_eq {g : Gr} {i : Nat} (hi : i < (ordA g).length) : lev g (ordA g)[i] = (row g (ordA g)[i]).foldl (fun b x => if lev g x + 1 > b then lev g x + 1 else b) 0 := by
  have hl := ordA_len g
  unfold lev
  rw [show lvF g (g.length + 1) (ordA g)[i] = (row g (ordA g)[i]).foldl (fun b x => if lvF g g.length x + 1 > b then lvF g g.length x + 1 else b) 0 from rfl]
  refine foldl_congr (fun e he b => ?_)
  obtain ⟨j, hj, hji, rfl⟩ := elder_at hi he
  rw [lvF_fuel g.length (g.length + 1) j hj (by omega) (by omega)]
theorem ld_eq {g : Gr} {s : Int} {i : Nat} (hi : i < (ordA g).length) : ld g s (ordA g)[i] = (row g (ordA g)[i]).any (fun e => e == s || ld g s e) := by
  have hl := ordA_len g
  unfold ld
  rw [show ldF g s (g.length + 1) (ordA g)[i] = (row g (ordA g)[i]).any (fun e => e == s || ldF g s g.length e) from rfl]
  refine any_congr' (fun e he => ?_)
  obtain ⟨j, hj, hji, rfl⟩ := elder_at hi he
  rw [ldF_fuel g.length (g.length + 1) j hj (by omega) (by omega)]

theorem fold_ge {f : Int → Int} : ∀ {l : List Int} {b : Int}, b ≤ l.foldl (fun b x => if f x + 1 > b then f x + 1 else b) b
  | [], b => by simp
  | x :: l, b => by
    rw [List.foldl_cons]
    have := fold_ge (f := f) (l := l) (b := if f x + 1 > b then f x + 1 else b)
    split at this <;> split <;> omega
theorem fold_gt {f : Int → Int} : ∀ {l : List Int} {b e : Int}, e ∈ l → f e < l.foldl (fun b x => if f x + 1 > b then f x + 1 else b) b
  | x :: l, b, e, h => by
    rw [List.foldl_cons]
    rcases List.mem_cons.1 h with rfl | h
    · have := fold_ge (f := f) (l := l) (b := if f e + 1 > b then f e + 1 else b)
      have h2 : f e + 1 ≤ (if f e + 1 > b then f e + 1 else b) := by split <;> omega
      omega
    · exact fold_gt h
theorem lev_gt {g : Gr} {i : Nat} (hi : i < (ordA g).length) {e : Int} (he : e ∈ row g (ordA g)[i]) : lev g e < lev g (ordA g)[i] := by
  rw [lev_eq hi]; exact fold_gt he
theorem lev_nonneg {g : Gr} {i : Nat} (hi : i < (ordA g).length) : 0 ≤ lev g (ordA g)[i] := by rw [lev_eq hi]; exact fold_ge
theorem fold_le {f : Int → Int} {m : Int} : ∀ {l : List Int} {b : Int}, b ≤ m → (∀ x ∈ l, f x + 1 ≤ m) → l.foldl (fun b x => if f x + 1 > b then f x + 1 else b) b ≤ m
  | [], b, h, _ => h
  | x :: l, b, h, hl => by
    rw [List.foldl_cons]
    refine fold_le ?_ (fun y hy => hl y (List.mem_cons_of_mem _ hy))
    have := hl x List.mem_cons_self
    split <;> omega
theorem lev_le {g : Gr} : ∀ (i : Nat) (hi : i < (ordA g).length), lev g (ordA g)[i] ≤ i := by
  intro i
  induction i using Nat.strongRecOn with
  | _ i ih =>
    intro hi
    rw [lev_eq hi]
    refine fold_le (by omega) (fun e he => ?_)
    obtain ⟨j, hj, hji, rfl⟩ := elder_at hi he
    have := ih j hji hj
    omega
/-- Who comes behind stands behind, on a higher level. -/
theorem ld_behind {g : Gr} {s : Int} : ∀ (i : Nat) (hi : i < (ordA g).length), ld g s (ordA g)[i] = true → lev g s < lev g (ordA g)[i] ∧ ∃ j, ∃ hj : j < (ordA g).length, j < i ∧ (ordA g)[j] = s := by
  intro i
  induction i using Nat.strongRecOn with
  | _ i ih =>
    intro hi h
    rw [ld_eq hi, List.any_eq_true] at h
    obtain ⟨e, he, h⟩ := h
    have hl := lev_gt hi he
    obtain ⟨j, hj, hji, rfl⟩ := elder_at hi he
    simp only [Bool.or_eq_true, beq_iff_eq] at h
    rcases h with h | h
    · exact ⟨by rw [← h]; exact hl, j, hj, hji, h⟩
    · obtain ⟨h1, q, hq, hqj, e⟩ := ih j hji hj h
      exact ⟨by omega, q, hq, by omega, e⟩
theorem ordA_inj {g : Gr} {i j : Nat} (hi : i < (ordA g).length) (hj : j < (ordA g).length) (h : (ordA g)[i] = (ordA g)[j]) : i = j :=
  (List.getElem_inj (ordA_st g).nd).1 h

/-- The levels, node by node in the order. -/
def levL (g : Gr) : List Int → List Int → List Int
  | [], lv => lv
  | n :: r, lv => levL g r (lv.set n.toNat ((row g n).foldl (fun b x => if lv.getD x.toNat 0 + 1 > b then lv.getD x.toNat 0 + 1 else b) (lv.getD n.toNat 0)))
theorem levL_at {g : Gr} : ∀ (r p lv : List Int), ordA g = p ++ r → lv.length = g.length → (∀ n : Int, 0 ≤ n → n < g.length → lv.getD n.toNat 0 = if n ∈ p then lev g n else 0) →
    (levL g r lv).length = g.length ∧ ∀ n : Int, 0 ≤ n → n < g.length → (levL g r lv).getD n.toNat 0 = if n ∈ ordA g then lev g n else 0
  | [], p, lv, ho, hl, h => by
    rw [List.append_nil] at ho
    rw [ho]
    exact ⟨hl, h⟩
  | n :: r, p, lv, ho, hl, h => by
    have hi : p.length < (ordA g).length := by rw [ho]; simp
    have hn : (ordA g)[p.length] = n := by simp [ho]
    have htk : (ordA g).take p.length = p := by rw [ho]; simp
    obtain ⟨t1, t2⟩ := ordA_take hi
    rw [htk, hn] at t1 t2
    obtain ⟨n0, n1⟩ := (ordA_st g).inn n (by rw [ho]; simp)
    have ev : (row g n).foldl (fun b x => if lv.getD x.toNat 0 + 1 > b then lv.getD x.toNat 0 + 1 else b) (lv.getD n.toNat 0) = lev g n := by
      rw [h n n0 n1, if_neg t1, ← hn, lev_eq hi]
      rw [hn]
      refine foldl_congr (fun e he b => ?_)
      have hep := t2 e he
      obtain ⟨e0, e1⟩ := (ordA_st g).inn e (by rw [ho]; exact List.mem_append_left _ hep)
      rw [h e e0 e1, if_pos hep]
    unfold levL
    rw [ev]
    refine levL_at r (p ++ [n]) _ (by rw [ho]; simp) (by simpa using hl) (fun m m0 m1 => ?_)
    by_cases e : m = n
    · subst e
      have hm : m.toNat < lv.length := by omega
      rw [if_pos (by simp)]
      simp [List.getD_eq_getElem?_getD, List.getElem?_set, hm]
    · have hne : ¬ (n.toNat = m.toNat) := by omega
      have em : (m ∈ p ++ [n]) ↔ m ∈ p := by simp [e]
      simp only [em]
      rw [← h m m0 m1]
      simp [List.getD_eq_getElem?_getD, List.getElem?_set, hne]
def levA (g : Gr) : List Int := levL g (ordA g) (List.replicate g.length 0)
theorem levA_at {g : Gr} (h : Rt g) : (levA g).length = g.length ∧ ∀ n : Int, 0 ≤ n → n < g.length → (levA g).getD n.toNat 0 = lev g n := by
  have := levL_at (g := g) (ordA g) [] (List.replicate g.length 0) rfl (by simp) (fun n n0 n1 => by simp [List.getD_eq_getElem?_getD, List.getElem?_replicate, show n.toNat < g.length by omega])
  refine ⟨this.1, fun n n0 n1 => ?_⟩
  rw [levA, this.2 n n0 n1, if_pos (h.mem n0 n1)]

/-- Who comes behind, node by node in the order. -/
def behL (g : Gr) : List Int → List Bool × List Int → List Bool × List Int
  | [], s => s
  | x :: r, s => behL g r (if (row g x).any (fun e => s.1.getD e.toNat false) then (s.1.set x.toNat true, s.2 ++ [x]) else s)
theorem behL_at {g : Gr} {s : Int} (s0 : 0 ≤ s) (s1 : s < g.length) : ∀ (r p : List Int) (q : List Bool × List Int), ordA g = p ++ r → q.1.length = g.length →
    (∀ n : Int, 0 ≤ n → n < g.length → q.1.getD n.toNat false = (n == s || (decide (n ∈ p) && ld g s n))) → q.2 = p.filter (ld g s) → (behL g r q).2 = (ordA g).filter (ld g s)
  | [], p, q, ho, hl, h, h2 => by
    rw [List.append_nil] at ho
    rw [ho]
    exact h2
  | x :: r, p, q, ho, hl, h, h2 => by
    have hi : p.length < (ordA g).length := by rw [ho]; simp
    have hn : (ordA g)[p.length] = x := by simp [ho]
    have htk : (ordA g).take p.length = p := by rw [ho]; simp
    obtain ⟨t1, t2⟩ := ordA_take hi
    rw [htk, hn] at t1 t2
    obtain ⟨x0, x1⟩ := (ordA_st g).inn x (by rw [ho]; simp)
    have ev : (row g x).any (fun e => q.1.getD e.toNat false) = ld g s x := by
      rw [← hn, ld_eq hi, hn]
      refine any_congr' (fun e he => ?_)
      have hep := t2 e he
      obtain ⟨e0, e1⟩ := (ordA_st g).inn e (by rw [ho]; exact List.mem_append_left _ hep)
      rw [h e e0 e1]
      simp [hep]
    unfold behL
    rw [ev]
    cases hx : ld g s x with
    | false =>
      rw [if_neg (by simp)]
      refine behL_at s0 s1 r (p ++ [x]) q (by rw [ho]; simp) hl (fun n n0 n1 => ?_) (by rw [List.filter_append, h2]; simp [hx])
      rw [h n n0 n1]
      by_cases e : n = x
      · subst e; simp [hx]
      · simp [e]
    | true =>
      rw [if_pos rfl]
      refine behL_at s0 s1 r (p ++ [x]) _ (by rw [ho]; simp) (by simpa using hl) (fun n n0 n1 => ?_) (by rw [List.filter_append, ← h2]; simp [hx])
      by_cases e : n = x
      · subst e
        have hm : n.toNat < q.1.length := by omega
        simp [List.getD_eq_getElem?_getD, List.getElem?_set, hm, hx]
      · have hne : ¬ (x.toNat = n.toNat) := by omega
        have : (q.1.set x.toNat true).getD n.toNat false = q.1.getD n.toNat false := by simp [List.getD_eq_getElem?_getD, List.getElem?_set, hne]
        show (q.1.set x.toNat true).getD n.toNat false = _
        rw [this, h n n0 n1]
        simp [e]
def behA (g : Gr) (s : Int) : List Int := (behL g (ordA g) ((List.replicate g.length false).set s.toNat true, [])).2
theorem behA_at {g : Gr} {s : Int} (s0 : 0 ≤ s) (s1 : s < g.length) : behA g s = (ordA g).filter (ld g s) := by
  refine behL_at s0 s1 (ordA g) [] _ rfl (by simp) (fun n n0 n1 => ?_) rfl
  by_cases e : n = s
  · subst e
    simp [List.getD_eq_getElem?_getD, List.getElem?_set, n1, show n.toNat < g.length by omega]
  · simp [List.getD_eq_getElem?_getD, List.getElem?_set, e, show ¬ (s.toNat = n.toNat) by omega, List.getElem?_replicate, show n.toNat < g.length by omega]
/-- Sorted, they are who must come behind, from the least on. -/
theorem beh_sorted {g : Gr} (h : Rt g) {s : Int} {l : List Int} (hp : l.Perm ((ordA g).filter (ld g s))) (hs : l.Pairwise le) : l = (rng g.length).filter (ld g s) := by
  refine sorted_eq (hp.trans ?_) hs (le_of_lts ((rng_lt _).filter _))
  refine nodup_perm ((ordA_st g).nd.filter _) ((rng_nodup _).filter _) (fun x => ?_)
  rw [List.mem_filter, List.mem_filter, mem_rng]
  exact and_congr_left (fun _ => ⟨fun hx => (ordA_st g).inn x hx, fun hx => h.mem hx.1 hx.2⟩)
end Go.Proofs.Ytkeadpichlgagaa.Wv
