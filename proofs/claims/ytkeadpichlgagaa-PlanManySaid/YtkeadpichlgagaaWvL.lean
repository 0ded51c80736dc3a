/- wave: graphs, in plain Lean: which lists are right, the order, what is ready. -/
import Derived.Test.YtkeadpichlgagaaWvP
namespace Go.Proofs.Ytkeadpichlgagaa.Wv
set_option linter.unusedVariables false
set_option linter.unusedSimpArgs false

abbrev Gr := List (List Int)
def row (g : Gr) (n : Int) : List Int := g.getD n.toNat []
def rng (N : Nat) : List Int := (List.range N).map (fun i : Nat => (i : Int))
theorem mem_rng {N : Nat} {x : Int} : x ∈ rng N ↔ 0 ≤ x ∧ x < N := by
  simp only [rng, List.mem_map, List.mem_range]
  constructor
  · rintro ⟨i, h, e⟩; omega
  · intro h; exact ⟨x.toNat, by omega, by omega⟩
theorem rng_lt (N : Nat) : (rng N).Pairwise (· < ·) := by
  unfold rng
  rw [List.pairwise_map]
  exact List.pairwise_lt_range.imp (fun h => by omega)
theorem nodup_of_lt {l : List Int} (h : l.Pairwise (· < ·)) : l.Nodup := h.imp (fun h => by omega)
theorem rng_nodup (N : Nat) : (rng N).Nodup := nodup_of_lt (rng_lt N)
theorem rng_length (N : Nat) : (rng N).length = N := by simp [rng]
theorem rng_succ (N : Nat) : rng (N + 1) = rng N ++ [(N : Int)] := by simp [rng, List.range_succ]

def chkRow (N n : Int) : List Int → List Int → Int
  | _, [] => 0
  | seen, e :: r => if e < 0 ∨ N ≤ e ∨ e = n then 110 else if e ∈ seen then 113 else chkRow N n (seen ++ [e]) r
def chkG (N : Int) : Int → List (List Int) → Int
  | _, [] => 0
  | n, l :: r => if chkRow N n [] l ≠ 0 then chkRow N n [] l else chkG N (n + 1) r
def listsE (g : Gr) : Int := chkG g.length 0 g

theorem chkRow_ok {N n : Int} : ∀ {l seen : List Int}, chkRow N n seen l = 0 → (∀ e ∈ l, 0 ≤ e ∧ e < N ∧ e ≠ n) ∧ (seen.Nodup → (seen ++ l).Nodup)
  | [], seen, _ => ⟨fun e h => (by cases h), fun h => (by simpa using h)⟩
  | e :: r, seen, h => by
    unfold chkRow at h
    split at h
    · omega
    · rename_i h1
      split at h
      · omega
      · rename_i h2
        obtain ⟨a, b⟩ := chkRow_ok h
        refine ⟨fun x hx => ?_, fun hs => ?_⟩
        · rcases List.mem_cons.1 hx with rfl | hx
          · omega
          · exact a x hx
        · have := b (by rw [List.nodup_append]; exact ⟨hs, by simp, fun x hx y hy => by simp at hy; subst hy; rintro rfl; exact h2 hx⟩)
          simpa using this
theorem chkG_ok {N : Int} : ∀ {l : Gr} {n : Int}, chkG N n l = 0 → ∀ (j : Nat) (hj : j < l.length), chkRow N (n + j) [] l[j] = 0
  | [], n, _, j, hj => by simp at hj
  | l :: r, n, h, j, hj => by
    unfold chkG at h
    split at h
    · rename_i h1; exact absurd h h1
    · rename_i h1
      cases j with
      | zero => simpa using h1
      | succ j =>
        have := chkG_ok h j (by simpa using hj)
        rw [show n + ((j + 1 : Nat) : Int) = n + 1 + j by omega]
        simpa using this
/-- The lists are right. -/
structure Ok (g : Gr) : Prop where
  at' : ∀ n : Int, 0 ≤ n → n < g.length → ∀ e ∈ row g n, 0 ≤ e ∧ e < g.length ∧ e ≠ n
  nd : ∀ n : Int, 0 ≤ n → n < g.length → (row g n).Nodup
theorem row_at (g : Gr) {j : Nat} (h : j < g.length) : row g (j : Int) = g[j] := by simp [row, h]
theorem ok_of {g : Gr} (h : listsE g = 0) : Ok g := by
  have H : ∀ n : Int, 0 ≤ n → n < g.length → chkRow g.length n [] (row g n) = 0 := fun n h0 h1 => by
    have := chkG_ok h n.toNat (by omega)
    rw [← row_at g (show n.toNat < g.length by omega), Int.toNat_of_nonneg h0, Int.zero_add] at this
    exact this
  exact ⟨fun n h0 h1 => (chkRow_ok (H n h0 h1)).1, fun n h0 h1 => by simpa using (chkRow_ok (H n h0 h1)).2 List.nodup_nil⟩

/-- Is a node ready? -/
def isR (g : Gr) (out : List Int) (n : Int) : Bool := !(out.contains n) && (row g n).all (fun e => out.contains e)
def rdy (g : Gr) (out : List Int) : List Int := (rng g.length).filter (isR g out)
def ordL (g : Gr) : Nat → List Int → List Int
  | 0, out => out
  | k + 1, out => match rdy g out with
    | [] => out
    | a :: _ => ordL g k (out ++ [a])
def ordA (g : Gr) : List Int := ordL g g.length []
def ordE (g : Gr) : Int := if listsE g ≠ 0 then listsE g else if (ordA g).length < g.length then 111 else 0
/-- How many elders are to come. -/
def cnt (g : Gr) (out : List Int) (y : Int) : Nat := ((row g y).filter (fun e => !(out.contains e))).length
def downs (g : Gr) (a : Int) : List Int := (rng g.length).filter (fun y => (row g y).contains a)

theorem rdy_sorted (g : Gr) (out : List Int) : (rdy g out).Pairwise (· < ·) := (rng_lt _).filter _
theorem mem_rdy {g : Gr} {out : List Int} {x : Int} : x ∈ rdy g out ↔ 0 ≤ x ∧ x < g.length ∧ x ∉ out ∧ ∀ e ∈ row g x, e ∈ out := by
  unfold rdy isR
  rw [List.mem_filter, mem_rng]
  simp [and_assoc]
theorem cnt_zero {g : Gr} {out : List Int} {x : Int} : cnt g out x = 0 ↔ ∀ e ∈ row g x, e ∈ out := by
  unfold cnt
  rw [List.length_eq_zero_iff, List.filter_eq_nil_iff]
  simp
theorem mem_downs {g : Gr} {a x : Int} : x ∈ downs g a ↔ 0 ≤ x ∧ x < g.length ∧ a ∈ row g x := by
  unfold downs
  rw [List.mem_filter, mem_rng]
  simp [and_assoc]
theorem filter_count_step {a : Int} {out : List Int} (ha : a ∉ out) : ∀ {l : List Int}, l.Nodup → (l.filter (fun e => !((out ++ [a]).contains e))).length + (if a ∈ l then 1 else 0) = (l.filter (fun e => !(out.contains e))).length
  | [], _ => by simp
  | x :: l, h => by
    obtain ⟨h1, h2⟩ := List.nodup_cons.1 h
    have ih := filter_count_step ha h2
    by_cases hx : x = a
    · subst hx
      rw [if_neg h1] at ih
      have e1 : (!((out ++ [x]).contains x)) = false := by simp
      have e2 : (!(out.contains x)) = true := by simp [ha]
      rw [List.filter_cons, List.filter_cons, e1, e2, if_pos rfl, if_pos List.mem_cons_self, if_neg (by decide), List.length_cons]
      omega
    · have e : (!((out ++ [a]).contains x)) = (!(out.contains x)) := by
        congr 1
        rw [Bool.eq_iff_iff]
        simp [hx]
      have m : (a ∈ x :: l) ↔ a ∈ l := by simp [Ne.symm hx]
      rw [List.filter_cons, List.filter_cons, e]
      simp only [m]
      split
      · rw [List.length_cons, List.length_cons]; omega
      · exact ih
theorem cnt_step {g : Gr} (h : Ok g) {out : List Int} {a y : Int} (ha : a ∉ out) (h0 : 0 ≤ y) (h1 : y < g.length) : cnt g (out ++ [a]) y + (if a ∈ row g y then 1 else 0) = cnt g out y :=
  filter_count_step ha (h.nd y h0 h1)

theorem nodup_perm {l m : List Int} (h1 : l.Nodup) (h2 : m.Nodup) (h : ∀ x, x ∈ l ↔ x ∈ m) : l.Perm m := (List.perm_ext_iff_of_nodup h1 h2).2 h
theorem sorted_eq {l m : List Int} (hp : l.Perm m) (h1 : l.Pairwise le) (h2 : m.Pairwise le) : l = m :=
  hp.eq_of_pairwise (fun a b _ _ h h' => le_antisymm h h') h1 h2

/-- What has come so far. -/
structure St (g : Gr) (out : List Int) : Prop where
  nd : out.Nodup
  inn : ∀ x ∈ out, 0 ≤ x ∧ x < g.length
  clo : ∀ x ∈ out, ∀ e ∈ row g x, e ∈ out
theorem St.nil (g : Gr) : St g [] := ⟨List.nodup_nil, fun x h => (by cases h), fun x h => (by cases h)⟩
theorem St.next {g : Gr} {out : List Int} {a : Int} (h : St g out) (ha : a ∈ rdy g out) : St g (out ++ [a]) := by
  obtain ⟨a0, a1, a2, a3⟩ := mem_rdy.1 ha
  refine ⟨?_, fun x hx => ?_, fun x hx e he => ?_⟩
  · rw [List.nodup_append]
    exact ⟨h.nd, by simp, fun x hx y hy => by simp at hy; subst hy; rintro rfl; exact a2 hx⟩
  · rcases List.mem_append.1 hx with hx | hx
    · exact h.inn x hx
    · simp at hx; subst hx; exact ⟨a0, a1⟩
  · rcases List.mem_append.1 hx with hx | hx
    · exact List.mem_append_left _ (h.clo x hx e he)
    · simp at hx; subst hx; exact List.mem_append_left _ (a3 e he)
theorem length_le_of_nodup {l : List Int} {N : Nat} (h : l.Nodup) (hi : ∀ x ∈ l, 0 ≤ x ∧ x < N) : l.length ≤ N := by
  have hp : l.Perm ((rng N).filter (fun x => l.contains x)) := nodup_perm h ((rng_nodup N).filter _) (fun x => by
    rw [List.mem_filter]
    exact ⟨fun hx => ⟨mem_rng.2 (hi x hx), by simpa using hx⟩, fun hx => by simpa using hx.2⟩)
  rw [hp.length_eq]
  exact Nat.le_trans (List.length_filter_le _ _) (by rw [rng_length]; exact Nat.le_refl _)
theorem mem_of_full {l : List Int} {N : Nat} (h : l.Nodup) (hi : ∀ x ∈ l, 0 ≤ x ∧ x < N) (hl : l.length = N) {x : Int} (h0 : 0 ≤ x) (h1 : x < N) : x ∈ l := by
  have hp : l.Perm ((rng N).filter (fun x => l.contains x)) := nodup_perm h ((rng_nodup N).filter _) (fun x => by
    rw [List.mem_filter]
    exact ⟨fun hx => ⟨mem_rng.2 (hi x hx), by simpa using hx⟩, fun hx => by simpa using hx.2⟩)
  have he : ((rng N).filter (fun x => l.contains x)).length = (rng N).length := by rw [← hp.length_eq, hl, rng_length]
  have := List.length_filter_eq_length_iff.1 he x (mem_rng.2 ⟨h0, h1⟩)
  simpa using this
theorem St.len {g : Gr} {out : List Int} (h : St g out) : out.length ≤ g.length := length_le_of_nodup h.nd h.inn

/-- What is ready next: the rest, and of the young ones those that have no elder to come. -/
theorem ready_next {g : Gr} (hk : Ok g) {out t : List Int} {a : Int} (h : St g out) (hr : rdy g out = a :: t) :
    (t ++ (downs g a).filter (fun y => decide (cnt g (out ++ [a]) y = 0))).Perm (rdy g (out ++ [a])) := by
  have hs := rdy_sorted g out
  rw [hr] at hs
  obtain ⟨hs1, hs2⟩ := List.pairwise_cons.1 hs
  have ha : a ∈ rdy g out := by rw [hr]; exact List.mem_cons_self
  obtain ⟨a0, a1, a2, a3⟩ := mem_rdy.1 ha
  have hat : a ∉ t := fun h => by have := hs1 a h; omega
  have ht : ∀ x ∈ t, x ∈ rdy g out := fun x hx => by rw [hr]; exact List.mem_cons_of_mem _ hx
  refine nodup_perm ?_ (nodup_of_lt (rdy_sorted _ _)) (fun x => ?_)
  · rw [List.nodup_append]
    refine ⟨nodup_of_lt hs2, ((rng_nodup _).filter _).filter _, fun x hx y hy => ?_⟩
    rintro rfl
    obtain ⟨_, _, _, x3⟩ := mem_rdy.1 (ht x hx)
    have hd := mem_downs.1 (List.mem_filter.1 hy).1
    exact a2 (x3 a hd.2.2)
  · rw [List.mem_append, List.mem_filter, mem_downs, mem_rdy, decide_eq_true_eq, cnt_zero]
    constructor
    · rintro (hx | ⟨⟨x0, x1, x2⟩, hx⟩)
      · obtain ⟨x0, x1, x2, x3⟩ := mem_rdy.1 (ht x hx)
        refine ⟨x0, x1, ?_, fun e he => List.mem_append_left _ (x3 e he)⟩
        simp only [List.mem_append, List.mem_singleton, not_or]
        exact ⟨x2, fun e => hat (e ▸ hx)⟩
      · refine ⟨x0, x1, ?_, hx⟩
        simp only [List.mem_append, List.mem_singleton, not_or]
        exact ⟨fun hxo => a2 (h.clo x hxo a x2), fun e => by subst e; exact (hk.at' x x0 x1 x x2).2.2 rfl⟩
    · rintro ⟨x0, x1, x2, x3⟩
      simp only [List.mem_append, List.mem_singleton, not_or] at x2
      by_cases hax : a ∈ row g x
      · exact .inr ⟨⟨x0, x1, hax⟩, x3⟩
      · left
        have : x ∈ rdy g out := mem_rdy.2 ⟨x0, x1, x2.1, fun e he => by
          rcases List.mem_append.1 (x3 e he) with h | h
          · exact h
          · simp at h; subst h; exact absurd he hax⟩
        rw [hr] at this
        rcases List.mem_cons.1 this with h | h
        · exact absurd h x2.2
        · exact h
/-- Numbers laid in, one by one. -/
def insA (t : List Int) (ys : List Int) : List Int := ys.foldl (fun l y => ins y l) t
theorem insA_snoc (t ys : List Int) (y : Int) : insA t (ys ++ [y]) = ins y (insA t ys) := by simp [insA, List.foldl_append]
theorem insA_perm : ∀ (ys t : List Int), (insA t ys).Perm (t ++ ys)
  | [], t => by simp [insA]
  | y :: ys, t => by
    have h := insA_perm ys (ins y t)
    refine h.trans (((ins_perm y t).append_right ys).trans ?_)
    simpa using (List.perm_middle (a := y) (l₁ := t) (l₂ := ys)).symm
theorem insA_sorted : ∀ (ys : List Int) {t : List Int}, t.Pairwise le → (insA t ys).Pairwise le
  | [], t, h => h
  | y :: ys, t, h => insA_sorted ys (ins_sorted y h)
theorem le_of_lts {l : List Int} (h : l.Pairwise (· < ·)) : l.Pairwise le := h.imp (fun h => by unfold le; omega)
theorem insA_ready {g : Gr} (hk : Ok g) {out t : List Int} {a : Int} (h : St g out) (hr : rdy g out = a :: t) :
    insA t ((downs g a).filter (fun y => decide (cnt g (out ++ [a]) y = 0))) = rdy g (out ++ [a]) := by
  have hs := rdy_sorted g out
  rw [hr] at hs
  exact sorted_eq ((insA_perm _ _).trans (ready_next hk h hr)) (insA_sorted _ (le_of_lts (List.pairwise_cons.1 hs).2)) (le_of_lts (rdy_sorted _ _))

theorem ordL_st {g : Gr} : ∀ {k : Nat} {out : List Int}, St g out → St g (ordL g k out)
  | 0, out, h => h
  | k + 1, out, h => by
    unfold ordL
    split
    · exact h
    · rename_i a t e; exact ordL_st (h.next (by rw [e]; exact List.mem_cons_self))
/-- At its end nothing is ready. -/
theorem ordL_end {g : Gr} : ∀ {k : Nat} {out : List Int}, St g out → g.length ≤ out.length + k → rdy g (ordL g k out) = []
  | 0, out, h, hk => by
    unfold ordL
    rw [List.eq_nil_iff_forall_not_mem]
    intro x hx
    have := (h.next hx).len
    simp at this
    omega
  | k + 1, out, h, hk => by
    unfold ordL
    split
    · rename_i e; exact e
    · rename_i a t e; exact ordL_end (h.next (by rw [e]; exact List.mem_cons_self)) (by simp; omega)
theorem ordL_prefix {g : Gr} : ∀ {k : Nat} {out : List Int}, ∃ r, ordL g k out = out ++ r
  | 0, out => ⟨[], by simp [ordL]⟩
  | k + 1, out => by
    unfold ordL
    split
    · exact ⟨[], by simp⟩
    · rename_i a t e
      obtain ⟨r, hr⟩ := ordL_prefix (g := g) (k := k) (out := out ++ [a])
      exact ⟨a :: r, by rw [hr]; simp⟩
/-- Each node was the least ready one when its turn came. -/
theorem ordL_turn {g : Gr} : ∀ {k : Nat} {out : List Int} {i : Nat} (hi : i < (ordL g k out).length), out.length ≤ i → ∃ t, rdy g ((ordL g k out).take i) = (ordL g k out)[i] :: t
  | 0, out, i, hi, h => by simp [ordL] at hi; omega
  | k + 1, out, i, hi, h => by
    cases hr : rdy g out with
    | nil =>
      have e : ordL g (k + 1) out = out := by simp [ordL, hr]
      rw [e] at hi; omega
    | cons a t =>
      have e : ordL g (k + 1) out = ordL g k (out ++ [a]) := by simp [ordL, hr]
      simp only [e] at hi ⊢
      by_cases hl : i = out.length
      · obtain ⟨r, hrr⟩ := ordL_prefix (g := g) (k := k) (out := out ++ [a])
        subst hl
        refine ⟨t, ?_⟩
        have e1 : (ordL g k (out ++ [a])).take out.length = out := by rw [hrr]; simp
        have e2 : (ordL g k (out ++ [a]))[out.length]'hi = a := by simp [hrr]
        rw [e1, e2, hr]
      · exact ordL_turn hi (by simp; omega)
theorem ordA_st (g : Gr) : St g (ordA g) := ordL_st (St.nil g)
theorem ordA_end (g : Gr) : rdy g (ordA g) = [] := ordL_end (St.nil g) (by simp)
theorem ordA_turn {g : Gr} {i : Nat} (hi : i < (ordA g).length) : ∃ t, rdy g ((ordA g).take i) = (ordA g)[i] :: t := ordL_turn hi (Nat.zero_le _)
theorem ordA_take {g : Gr} {i : Nat} (hi : i < (ordA g).length) : (ordA g)[i] ∉ (ordA g).take i ∧ ∀ e ∈ row g (ordA g)[i], e ∈ (ordA g).take i := by
  obtain ⟨t, h⟩ := ordA_turn hi
  have : (ordA g)[i] ∈ rdy g ((ordA g).take i) := by rw [h]; exact List.mem_cons_self
  exact (mem_rdy.1 this).2.2

/-- A right graph. -/
structure Rt (g : Gr) : Prop where
  ok : Ok g
  all : (ordA g).length = g.length
theorem rt_of {g : Gr} (h : ordE g = 0) : Rt g := by
  unfold ordE at h
  split at h
  · omega
  · rename_i h1
    split at h
    · omega
    · exact ⟨ok_of (by omega), by have := (ordA_st g).len; omega⟩
theorem Rt.mem {g : Gr} (h : Rt g) {x : Int} (h0 : 0 ≤ x) (h1 : x < g.length) : x ∈ ordA g := by
  exact mem_of_full (ordA_st g).nd (ordA_st g).inn h.all h0 h1
end Go.Proofs.Ytkeadpichlgagaa.Wv
