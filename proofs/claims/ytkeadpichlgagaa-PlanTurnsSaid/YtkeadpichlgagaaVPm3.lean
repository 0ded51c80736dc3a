/- Kept of the text Pm3: what is reached (wip/tools/prune.py). -/
import Derived.Test.YtkeadpichlgagaaVPm2
namespace Go.Proofs.Ytkeadpichlgagaa.Pla
open Go.RowKit Go.Lib Go.Sort Go.Shelf Go.Proofs.YtkeadpichlgagaaW.PrintWords Go.Proofs.YtkeadpichlgagaaW.PrintLast Go.Proofs.YtkeadpichlgagaaW.PrintMore
open Go.Proofs.Ytkeadpichlgagaa.Pl Go.Proofs.Ytkeadpichlgagaa.PlS Go.Proofs.Ytkeadpichlgagaa.Mp
set_option linter.unusedVariables false
set_option linter.unusedSimpArgs false
set_option linter.unnecessarySimpa false
abbrev IntR (w : World) (B : Nat) (v : Value) (xs : List Int) : Prop := (Kd.int .i64).R 3 w B (fun _ => True) v xs
theorem IntR.move {w w1 : World} {B : Nat} {v : Value} {xs : List Int} (h : IntR w B v xs) (hm : ∀ k, v.ownBlock = some k → k < w.heap.size → w1.heap[k]? = w.heap[k]?) : IntR w1 B v xs :=
  Kd.R_mono (Kd.R_step (Kd.R_tight rfl h) (fun k hk hlt => hm k hk.symm hlt)) (fun _ _ => trivial)
def El (w : World) (B : Nat) (f : Nat → Nat) (cells : List Value) (j : Nat) (x : S51) : Prop := ∃ va vc, cells[3 * j]? = some va ∧ cells[3 * j + 1]? = some vc ∧ cells[3 * j + 2]? = some (.int .i64 x.f2) ∧
  IntR w B va x.f0 ∧ (∀ k, va.ownBlock = some k → f k = 2 * j + 1) ∧ IntR w B vc x.f1 ∧ (∀ k, vc.ownBlock = some k → f k = 2 * j + 2)
theorem El.move {w w1 : World} {B : Nat} {f f' : Nat → Nat} {cells : List Value} {j : Nat} {x : S51} (h : El w B f cells j x) (hm : ∀ k, k < w.heap.size → (f k = 2 * j + 1 ∨ f k = 2 * j + 2) → w1.heap[k]? = w.heap[k]?) (hf : ∀ k, k < w.heap.size → f' k = f k) : El w1 B f' cells j x := by
  obtain ⟨va, vc, e0, e1, e2, ha, ta, hc, tc⟩ := h
  exact ⟨va, vc, e0, e1, e2, ha.move (fun k hk hlt => hm k hlt (.inl (ta k hk))), fun k hk => (hf k (Kd.R_lt ha k hk)).trans (ta k hk), hc.move (fun k hk hlt => hm k hlt (.inr (tc k hk))), fun k hk => (hf k (Kd.R_lt hc k hk)).trans (tc k hk)⟩
theorem El.cells {w : World} {B : Nat} {f : Nat → Nat} {cells cells' : List Value} {j : Nat} {x : S51} (h : El w B f cells j x) (hc : ∀ i, i < 3 → cells'[3 * j + i]? = cells[3 * j + i]?) : El w B f cells' j x := by
  obtain ⟨va, vc, e0, e1, e2, r⟩ := h
  exact ⟨va, vc, (hc 0 (by omega)).trans e0, (hc 1 (by omega)).trans e1, (hc 2 (by omega)).trans e2, r⟩
def Wr (w : World) (B : Nat) (v : Value) (ws : List S51) (f : Nat → Nat) : Prop := ∃ cells, w.ownsRow B 51 3 v ws.length cells ∧ ∀ j x, ws[j]? = some x → El w B f cells j x
theorem Wr.nil (w : World) (B : Nat) (f : Nat → Nat) : Wr w B (.slice none 0 0) [] f := ⟨[], own_nil _ _ _ _, fun j x h => by simp at h⟩
theorem Wr.move {w w1 : World} {B : Nat} {v : Value} {ws : List S51} {f : Nat → Nat} (h : Wr w B v ws f) (hb : ∀ k, B ≤ k → k < w.heap.size → w1.heap[k]? = w.heap[k]?) : Wr w1 B v ws f := by
  obtain ⟨cells, ho, he⟩ := h
  refine ⟨cells, own_move ho (fun k hk => hb k (own_base ho k hk) (own_lt ho k hk)), fun j x hj => ?_⟩
  obtain ⟨va, vc, e0, e1, e2, ha, ta, hc, tc⟩ := he j x hj
  exact ⟨va, vc, e0, e1, e2, ha.move (fun k hk hlt => hb k (Kd.R_base ha k hk) hlt), ta, hc.move (fun k hk hlt => hb k (Kd.R_base hc k hk) hlt), tc⟩
theorem Wr.below {w w1 : World} {B : Nat} {v : Value} {ws : List S51} {f : Nat → Nat} (h : Wr w B v ws f) (hb : Below w.heap.size w w1) : Wr w1 B v ws f := h.move (fun k _ hlt => hb.block k hlt)
theorem Wr.slice {w : World} {B : Nat} {v : Value} {ws : List S51} {f : Nat → Nat} (h : Wr w B v ws f) : ∃ A c, v = .slice A ws.length c := by
  obtain ⟨cells, ho, _⟩ := h
  exact own_slice ho
theorem Wr.reads {w : World} {B : Nat} {A : Option Addr} {n c : Nat} {ws : List S51} {f : Nat → Nat} (h : Wr w B (.slice A n c) ws f) : n = ws.length ∧ ws.length ≤ c ∧ k51.C w A ws.length ws := by
  obtain ⟨cells, ho, he⟩ := h
  have hr : Reps (k51.K w) 3 ws cells := by
    have hl : cells.length = ws.length * 3 := ho.1
    refine ⟨hl, fun j x hj => ?_⟩
    have hjl := (List.getElem?_eq_some_iff.1 hj).1
    obtain ⟨va, vc, e0, e1, e2, ha, _, hc, _⟩ := he j x hj
    obtain ⟨A0, c0, rfl⟩ := Kd.R_slice ha
    obtain ⟨A1, c1, rfl⟩ := Kd.R_slice hc
    obtain ⟨_, l0, g0⟩ := Kd.R_reads' ha
    obtain ⟨_, l1, g1⟩ := Kd.R_reads' hc
    have e : (cells.drop (j * 3)).take 3 = [.slice A0 x.f0.length c0, .slice A1 x.f1.length c1, .int .i64 x.f2] := by
      apply List.ext_getElem?
      intro i
      rw [List.getElem?_take]
      rcases i with _ | _ | _ | i
      · rw [if_pos (by omega), List.getElem?_drop, Nat.mul_comm]; exact e0
      · rw [if_pos (by omega), List.getElem?_drop, Nat.mul_comm]; exact e1
      · rw [if_pos (by omega), List.getElem?_drop, Nat.mul_comm]; exact e2
      · rw [if_neg (by omega)]; rfl
    rw [e]
    exact k51_mk w x l0 g0 l1 g1
  have hr' : OwnRow (k51.K w) 51 3 w B (.slice A n c) ws := ⟨cells, ho, hr⟩
  obtain ⟨A', c', e, h1, h2⟩ := OwnRow.reads hr'
  cases e
  exact ⟨rfl, h1, h2⟩
theorem inner_ne {w : World} {B : Nat} {v u : Value} {n : Nat} {cells : List Value} {xs : List Int} (ho : w.ownsRow B 51 3 v n cells) (hu : IntR w B u xs) : ∀ k, u.ownBlock = some k → v.ownBlock ≠ some k := by
  intro k hk e
  obtain ⟨c1, h1⟩ := own_typed ho k e
  obtain ⟨inner, hi⟩ := Kd.R_own hu
  obtain ⟨c2, h2⟩ := own_typed hi k hk
  rw [h1] at h2
  cases h2
theorem Wr.snoc {w w1 : World} {B : Nat} {v v1 va vc : Value} {ws : List S51} {f f' : Nat → Nat} {cells : List Value} (x : S51) (ho : w.ownsRow B 51 3 v ws.length cells) (he : ∀ j x, ws[j]? = some x → El w B f cells j x)
    (ho1 : w1.ownsRow B 51 3 v1 (ws.length + 1) (cells ++ [va, vc, .int .i64 x.f2])) (hg : w.grownBy w1 v.ownBlock) (hf : ∀ k, k < w.heap.size → (∃ j, j < ws.length ∧ (f k = 2 * j + 1 ∨ f k = 2 * j + 2)) → f' k = f k)
    (ha : IntR w1 B va x.f0) (ta : ∀ k, va.ownBlock = some k → f' k = 2 * ws.length + 1) (hc : IntR w1 B vc x.f1) (tc : ∀ k, vc.ownBlock = some k → f' k = 2 * ws.length + 2) : Wr w1 B v1 (ws ++ [x]) f' := by
  have hl : cells.length = ws.length * 3 := ho.1
  refine ⟨_, by rw [List.length_append, List.length_singleton]; exact ho1, fun j y hj => ?_⟩
  rcases Nat.lt_or_ge j ws.length with h | h
  · rw [List.getElem?_append_left h] at hj
    obtain ⟨ua, uc, e0, e1, e2, ra, sa, rc, sc⟩ := he j y hj
    have hi : ∀ i, i < 3 → (cells ++ [va, vc, .int .i64 x.f2])[3 * j + i]? = cells[3 * j + i]? := fun i hi => List.getElem?_append_left (by omega)
    refine ⟨ua, uc, (hi 0 (by omega)).trans e0, (hi 1 (by omega)).trans e1, (hi 2 (by omega)).trans e2, ra.move (fun k hk hlt => hg.block k hlt (fun e => inner_ne ho ra k hk e.symm)), fun k hk => ?_, rc.move (fun k hk hlt => hg.block k hlt (fun e => inner_ne ho rc k hk e.symm)), fun k hk => ?_⟩
    · exact (hf k (Kd.R_lt ra k hk) ⟨j, h, .inl (sa k hk)⟩).trans (sa k hk)
    · exact (hf k (Kd.R_lt rc k hk) ⟨j, h, .inr (sc k hk)⟩).trans (sc k hk)
  · have hje : j = ws.length := by
      have := (List.getElem?_eq_some_iff.1 hj).1
      rw [List.length_append, List.length_singleton] at this
      omega
    subst hje
    obtain rfl : x = y := by simpa using hj
    have hi : ∀ i, (cells ++ [va, vc, .int .i64 x.f2])[3 * ws.length + i]? = [va, vc, Value.int .i64 x.f2][i]? := fun i => by
      rw [List.getElem?_append_right (by omega)]
      congr 1
      omega
    exact ⟨va, vc, hi 0, hi 1, hi 2, ha, ta, hc, tc⟩
theorem own_put {w : World} {B g n cap : Nat} {sz : Nat} {e : TypeId} {cells : List Value} (h : w.ownsRow B e sz (.slice (some ⟨g, 0, none⟩) n cap) n cells) {i : Nat} (hi : i < n * sz) (u : Value) : (w.setCell ⟨g, i, none⟩ u).ownsRow B e sz (.slice (some ⟨g, 0, none⟩) n cap) n (cells.set i u) := by
  obtain ⟨h1, h2⟩ := h
  refine ⟨by rw [List.length_set]; exact h1, ?_⟩
  rcases h2 with ⟨h2, _⟩ | ⟨g', cap', cur, e1, hg, hh, r1, r2, r3, r4⟩
  · cases h2
  · cases e1
    refine .inr ⟨g, cap, cur.setIfInBounds i u, rfl, hg, blk_set hh i u, r1, r2, by simpa using r3, ?_⟩
    rw [Array.toList_setIfInBounds, List.take_set, r4]
theorem Wr.store {w : World} {B g n cap : Nat} {ws : List S51} {f : Nat → Nat} {cells : List Value} {k i : Nat} {u : Value} {x' : S51} (ho : w.ownsRow B 51 3 (.slice (some ⟨g, 0, none⟩) n cap) n cells) (hn : n = ws.length) (hk : k < ws.length) (hi : i < 3)
    (he : ∀ j x, j ≠ k → ws[j]? = some x → El w B f cells j x) (hek : El w B f (cells.set (3 * k + i) u) k x') : Wr (w.setCell ⟨g, 3 * k + i, none⟩ u) B (.slice (some ⟨g, 0, none⟩) n cap) (ws.set k x') f := by
  subst hn
  have hbk : ∃ cur, w.heap[g]? = some (.cells cur 51 (0, 0)) := own_typed ho g rfl
  obtain ⟨cur, hcur⟩ := hbk
  have mv : ∀ j x cs, El w B f cs j x → El (w.setCell ⟨g, 3 * k + i, none⟩ u) B f cs j x := by
    rintro j x cs ⟨va, vc, e0, e1, e2, ha, ta, hc, tc⟩
    exact ⟨va, vc, e0, e1, e2, Kd.R_set ha hcur (fun q hq => by simp [Kd.int, Kd.scalar] at hq; omega) _ _, ta, Kd.R_set hc hcur (fun q hq => by simp [Kd.int, Kd.scalar] at hq; omega) _ _, tc⟩
  refine ⟨cells.set (3 * k + i) u, by rw [List.length_set]; exact own_put ho (by omega) u, fun j x hj => ?_⟩
  by_cases hjk : k = j
  · subst hjk
    rw [List.getElem?_set_self hk] at hj
    cases hj
    exact mv _ _ _ hek
  · rw [List.getElem?_set_ne hjk] at hj
    refine mv _ _ _ ((he j x (fun e => hjk e.symm) hj).cells (fun q hq => ?_))
    rw [List.getElem?_set_ne (by omega)]
theorem Wr.put1 {w w1 : World} {B g n cap : Nat} {ws : List S51} {f : Nat → Nat} {cells : List Value} {k : Nat} {vc v' : Value} {x : S51} {l' : List Int} (ho : w.ownsRow B 51 3 (.slice (some ⟨g, 0, none⟩) n cap) ws.length cells) (he : ∀ j x, ws[j]? = some x → El w B f cells j x)
    (hx : ws[k]? = some x) (hvc : cells[3 * k + 1]? = some vc) (hg : w.grownBy w1 vc.ownBlock) (hr : IntR w1 B v' l') (hat : v'.ownBlock = vc.ownBlock ∨ ∃ b, v'.ownBlock = some b ∧ w.heap.size ≤ b) :
    ∃ f', Wr (w1.setCell ⟨g, 3 * k + 1, none⟩ v') B (.slice (some ⟨g, 0, none⟩) n cap) (ws.set k ⟨x.f0, l', x.f2⟩) f' := by
  have hk := (List.getElem?_eq_some_iff.1 hx).1
  obtain ⟨va, vc', e0, e1, e2, ha, ta, hc, tc⟩ := he k x hx
  obtain rfl : vc' = vc := by rw [hvc] at e1; exact (Option.some.inj e1).symm
  have hn : n = ws.length := by obtain ⟨A, c, e⟩ := own_slice ho; cases e; rfl
  subst hn
  refine ⟨fun b => if w.heap.size ≤ b then 2 * k + 2 else f b, ?_⟩
  have hf : ∀ b, b < w.heap.size → (fun b => if w.heap.size ≤ b then 2 * k + 2 else f b) b = f b := fun b hb => if_neg (by omega)
  have hl : cells.length = ws.length * 3 := ho.1
  have ho1 : w1.ownsRow B 51 3 (.slice (some ⟨g, 0, none⟩) ws.length cap) ws.length cells := ho.kept hg (by
    rcases hb : vc'.ownBlock with _ | b
    · right; simp [Value.ownBlock]
    · right; exact fun e => inner_ne ho hc b hb e)
  refine Wr.store (i := 1) (u := v') ho1 rfl hk (by omega) (fun j y hjk hj => ?_) ?_
  · refine (he j y hj).move (fun b hb ht => hg.block b hb (fun e => ?_)) hf
    have := tc b e.symm
    omega
  · refine ⟨va, v', ?_, ?_, ?_, ha.move (fun b hb hlt => hg.block b hlt (fun e => ?_)), fun b hb => (hf b (Kd.R_lt ha b hb)).trans (ta b hb), hr, fun b hb => ?_⟩
    · rw [List.getElem?_set_ne (by omega)]; exact e0
    · rw [List.getElem?_set_self (by omega)]
    · rw [List.getElem?_set_ne (by omega)]; exact e2
    · have := ta b hb
      have := tc b e.symm
      omega
    · rcases hat with h | ⟨b', h1, h2⟩
      · have hb2 : vc'.ownBlock = some b := by rw [← h]; exact hb
        exact (hf b (Kd.R_lt hc b hb2)).trans (tc b hb2)
      · rw [hb] at h1
        cases h1
        exact if_pos h2
theorem Wr.put0 {w w1 : World} {B g n cap : Nat} {ws : List S51} {f : Nat → Nat} {cells : List Value} {k : Nat} {vc v' : Value} {x : S51} {l' : List Int} (ho : w.ownsRow B 51 3 (.slice (some ⟨g, 0, none⟩) n cap) ws.length cells) (he : ∀ j x, ws[j]? = some x → El w B f cells j x)
    (hx : ws[k]? = some x) (hvc : cells[3 * k]? = some vc) (hg : w.grownBy w1 vc.ownBlock) (hr : IntR w1 B v' l') (hat : v'.ownBlock = vc.ownBlock ∨ ∃ b, v'.ownBlock = some b ∧ w.heap.size ≤ b) :
    ∃ f', Wr (w1.setCell ⟨g, 3 * k + 0, none⟩ v') B (.slice (some ⟨g, 0, none⟩) n cap) (ws.set k ⟨l', x.f1, x.f2⟩) f' := by
  have hk := (List.getElem?_eq_some_iff.1 hx).1
  obtain ⟨va, vc', e0, e1, e2, ha, ta, hc, tc⟩ := he k x hx
  obtain rfl : va = vc := by rw [hvc] at e0; exact (Option.some.inj e0).symm
  have hn : n = ws.length := by obtain ⟨A, c, e⟩ := own_slice ho; cases e; rfl
  subst hn
  refine ⟨fun b => if w.heap.size ≤ b then 2 * k + 1 else f b, ?_⟩
  have hf : ∀ b, b < w.heap.size → (fun b => if w.heap.size ≤ b then 2 * k + 1 else f b) b = f b := fun b hb => if_neg (by omega)
  have hl : cells.length = ws.length * 3 := ho.1
  have ho1 : w1.ownsRow B 51 3 (.slice (some ⟨g, 0, none⟩) ws.length cap) ws.length cells := ho.kept hg (by
    rcases hb : va.ownBlock with _ | b
    · right; simp [Value.ownBlock]
    · right; exact fun e => inner_ne ho ha b hb e)
  refine Wr.store (i := 0) (u := v') ho1 rfl hk (by omega) (fun j y hjk hj => ?_) ?_
  · refine (he j y hj).move (fun b hb ht => hg.block b hb (fun e => ?_)) hf
    have := ta b e.symm
    omega
  · refine ⟨v', vc', ?_, ?_, ?_, hr, fun b hb => ?_, hc.move (fun b hb hlt => hg.block b hlt (fun e => ?_)), fun b hb => (hf b (Kd.R_lt hc b hb)).trans (tc b hb)⟩
    · rw [Nat.add_zero, List.getElem?_set_self (by omega)]
    · rw [List.getElem?_set_ne (by omega)]; exact e1
    · rw [List.getElem?_set_ne (by omega)]; exact e2
    · rcases hat with h | ⟨b', h1, h2⟩
      · have hb2 : va.ownBlock = some b := by rw [← h]; exact hb
        exact (hf b (Kd.R_lt ha b hb2)).trans (ta b hb2)
      · rw [hb] at h1
        cases h1
        exact if_pos h2
    · have := tc b hb
      have := ta b e.symm
      omega
theorem Wr.at {w : World} {B : Nat} {v : Value} {ws : List S51} {f : Nat → Nat} (h : Wr w B v ws f) {k : Nat} (hk : k < ws.length) : ∃ g cap cells va vc, v = .slice (some ⟨g, 0, none⟩) ws.length cap ∧ B ≤ g ∧ g < w.heap.size ∧ w.ownsRow B 51 3 v ws.length cells ∧ (∀ j x, ws[j]? = some x → El w B f cells j x) ∧
    cells[3 * k]? = some va ∧ cells[3 * k + 1]? = some vc ∧ IntR w B va ws[k].f0 ∧ IntR w B vc ws[k].f1 ∧ (∃ cur, w.heap[g]? = some (.cells cur 51 (0, 0))) ∧ w.cell? ⟨g, 3 * k, none⟩ = some va ∧ w.cell? ⟨g, 3 * k + 1, none⟩ = some vc := by
  obtain ⟨cells, ho, he⟩ := h
  obtain ⟨va, vc, e0, e1, e2, ha, ta, hc, tc⟩ := he k _ (List.getElem?_eq_getElem hk)
  obtain ⟨g, cap, rfl, hg, hlt⟩ := ho.form (by omega)
  have hcell : ∀ j u, cells[j]? = some u → w.cell? ⟨g, j, none⟩ = some u := fun j u hu => by have := ho.cells (g := g) rfl j u hu; rwa [add_plain] at this
  exact ⟨g, cap, cells, va, vc, rfl, hg, hlt, ho, he, e0, e1, ha, hc, own_typed ho g rfl, hcell _ _ e0, hcell _ _ e1⟩
theorem El.grown {w w1 : World} {B : Nat} {f : Nat → Nat} {cells : List Value} {ws : List S51} (he : ∀ j x, ws[j]? = some x → El w B f cells j x) (hb : Below w.heap.size w w1) : ∀ j x, ws[j]? = some x → El w1 B f cells j x := fun j x hj => (he j x hj).move (fun k hk _ => hb.block k hk) (fun _ _ => rfl)
end Go.Proofs.Ytkeadpichlgagaa.Pla
namespace Go.Proofs.Ytkeadpichlgagaa.Pla
open Go.Proofs.Ytkeadpichlgagaa.Pl
set_option linter.unusedVariables false
set_option linter.unusedSimpArgs false
set_option linter.unnecessarySimpa false
theorem set_split {ws : List S51} {k : Nat} (hk : k < ws.length) (x : S51) : ws.set k x = ws.take k ++ x :: ws.drop (k + 1) := List.set_eq_take_append_cons_drop.trans (if_pos hk)
theorem self_split {ws : List S51} {k : Nat} (hk : k < ws.length) : ws = ws.take k ++ ws[k] :: ws.drop (k + 1) := by rw [← List.drop_eq_getElem_cons hk, List.take_append_drop]
theorem clus_app (a b : List S51) : clus (a ++ b) = clus a ++ clus b := by unfold clus; rw [List.flatMap_append]
theorem clus_cons (x : S51) (b : List S51) : clus (x :: b) = x.f1 ++ clus b := by unfold clus; rw [List.flatMap_cons]
theorem clus_set {ws : List S51} {k : Nat} (hk : k < ws.length) (x : S51) : clus (ws.set k x) = clus (ws.take k) ++ (x.f1 ++ clus (ws.drop (k + 1))) := by rw [set_split hk, clus_app, clus_cons]
theorem clus_self {ws : List S51} {k : Nat} (hk : k < ws.length) : clus ws = clus (ws.take k) ++ (ws[k].f1 ++ clus (ws.drop (k + 1))) := by
  conv => lhs; rw [self_split hk]
  rw [clus_app, clus_cons]
theorem clus_perm {ws : List S51} {k : Nat} (hk : k < ws.length) {x : S51} (hp : x.f1.Perm ws[k].f1) : (clus (ws.set k x)).Perm (clus ws) := by
  rw [clus_set hk, clus_self hk]
  exact List.Perm.append_left _ (List.Perm.append_right _ hp)
theorem clus_more {ws : List S51} {k : Nat} (hk : k < ws.length) (a : List Int) (c b : Int) : (clus (ws.set k ⟨a, ws[k].f1 ++ [c], b⟩)).Perm (clus ws ++ [c]) := by
  rw [clus_set hk, clus_self hk]
  show (clus (ws.take k) ++ ((ws[k].f1 ++ [c]) ++ clus (ws.drop (k + 1)))).Perm _
  rw [List.append_assoc, List.append_assoc, List.append_assoc]
  refine List.Perm.append_left _ (List.Perm.append_left _ ?_)
  exact List.perm_append_comm
theorem any_set {ws : List S51} {k : Nat} (hk : k < ws.length) {x : S51} (p : S51 → Bool) (h : ws.any p = false) (hx : p x = false) : (ws.set k x).any p = false := by
  rw [List.any_eq_false] at *
  intro y hy
  rcases List.mem_or_eq_of_mem_set hy with h1 | rfl
  · exact h y h1
  · rw [hx]; decide
theorem any_set_true {ws : List S51} {k : Nat} (hk : k < ws.length) {x : S51} (p : S51 → Bool) (hx : p x = true) : (ws.set k x).any p = true := by
  rw [List.any_eq_true]
  exact ⟨x, List.mem_iff_getElem.2 ⟨k, by simpa using hk, by simp⟩, hx⟩
theorem mem_clus {ws : List S51} {x : S51} {c : Int} (hx : x ∈ ws) (hc : c ∈ x.f1) : c ∈ clus ws := List.mem_flatMap.2 ⟨x, hx, hc⟩
theorem chkRow_more {N n e : Int} (he : e < 0 ∨ N ≤ e ∨ e = n) : ∀ {l seen : List Int}, Wv.chkRow N n seen l = 0 → Wv.chkRow N n seen (l ++ [e]) = 110
  | [], seen, _ => by show Wv.chkRow N n seen [e] = 110; unfold Wv.chkRow; rw [if_pos he]
  | x :: l, seen, h => by
    show Wv.chkRow N n seen (x :: (l ++ [e])) = 110
    unfold Wv.chkRow at h ⊢
    split at h
    · cases h
    · rename_i h1
      split at h
      · cases h
      · rename_i h2
        rw [if_neg h1, if_neg h2]
        exact chkRow_more he h
theorem chkG_more {N e : Int} : ∀ {l : Wv.Gr} {n : Int} {k : Nat} (hk : k < l.length), Wv.chkG N n l = 0 → (e < 0 ∨ N ≤ e ∨ e = n + k) → Wv.chkG N n (l.set k (l[k] ++ [e])) = 110
  | [], _, _, hk, _, _ => by simp at hk
  | r :: l, n, 0, hk, h, he => by
    unfold Wv.chkG at h
    split at h
    · rename_i h1; exact absurd h h1
    · rename_i h1
      have h2 := chkRow_more (N := N) (n := n) (e := e) (by simpa using he) (l := r) (seen := []) (by simpa using h1)
      show Wv.chkG N n ((r ++ [e]) :: l) = 110
      unfold Wv.chkG
      rw [if_pos (by rw [h2]; decide), h2]
  | r :: l, n, k + 1, hk, h, he => by
    unfold Wv.chkG at h
    split at h
    · rename_i h1; exact absurd h h1
    · rename_i h1
      show Wv.chkG N n (r :: l.set k (l[k]'(by simpa using hk) ++ [e])) = 110
      unfold Wv.chkG
      rw [if_neg h1]
      exact chkG_more (by simpa using hk) h (by rw [show n + ((k + 1 : Nat) : Int) = n + 1 + k by omega] at he; exact he)
theorem ordE_more {g : Wv.Gr} {k : Nat} {e : Int} (hk : k < g.length) (h : Wv.ordE g = 0) (he : e < 0 ∨ (g.length : Int) ≤ e ∨ e = k) : Wv.ordE (g.set k (g[k] ++ [e])) = 110 := by
  have h0 : Wv.listsE g = 0 := by
    unfold Wv.ordE at h
    split at h
    · rename_i h1; exact absurd h h1
    · rename_i h1; simpa using h1
  have h1 : Wv.listsE (g.set k (g[k] ++ [e])) = 110 := by
    unfold Wv.listsE at *
    rw [List.length_set]
    exact chkG_more hk h0 (by rw [Int.zero_add]; exact he)
  unfold Wv.ordE
  rw [h1, if_pos (by decide)]
theorem check_ok {b d : Int} {ws : List S51} (h : checkF b d ws = 0) : (1 ≤ b ∧ b ≤ 65535) ∧ (0 ≤ d ∧ d ≤ 65535) ∧ (1 ≤ ws.length ∧ ws.length ≤ 64) ∧ ws.any badW = false ∧ (clus ws).length ≤ 65535 ∧ (clus ws).Nodup ∧ Wv.ordE (ws.map (·.f0)) = 0 := by
  unfold checkF at h
  split at h
  · cases h
  · rename_i h1
    split at h
    · cases h
    · rename_i h2
      split at h
      · cases h
      · rename_i h3
        split at h
        · cases h
        · rename_i h4
          simp only [not_or, Classical.not_not] at h1
          exact ⟨h1.1, h1.2.1, h1.2.2, by simpa using h2, by omega, Classical.not_not.1 h4, h⟩
theorem turn_a {b d : Int} {ws : List S51} (h : checkF b d ws = 0) (b' : Int) : checkF b' d ws = if 1 ≤ b' ∧ b' ≤ 65535 then 0 else 2 := by
  obtain ⟨h1, h2, h3, h4, h5, h6, h7⟩ := check_ok h
  by_cases hb : 1 ≤ b' ∧ b' ≤ 65535
  · rw [if_pos hb, check_n hb h2 h3 h4, if_neg (by omega), if_neg (fun hn => hn h6), h7]
  · rw [if_neg hb]; exact check_a (.inl hb)
theorem map_set0 {ws : List S51} {k : Nat} (hk : k < ws.length) (x : S51) : (ws.set k x).map (·.f0) = (ws.map (·.f0)).set k x.f0 := List.map_set
theorem set_same0 {ws : List S51} {k : Nat} (hk : k < ws.length) {x : S51} (hx : x.f0 = ws[k].f0) : (ws.set k x).map (·.f0) = ws.map (·.f0) := by
  rw [map_set0 hk, hx]
  refine List.ext_getElem (by simp) (fun i h1 h2 => ?_)
  rw [List.getElem_set]
  split
  · rename_i e; subst e; simp
  · rfl
theorem bad_at {ws : List S51} (h : ws.any badW = false) {k : Nat} (hk : k < ws.length) : badW ws[k] = false := by
  have := List.any_eq_false.1 h _ (List.getElem_mem hk)
  simpa using this
theorem bad_parts {x : S51} (h : badW x = false) : (0 ≤ x.f2 ∧ x.f2 ≤ 1048576) ∧ ¬ x.f1.length = 0 ∧ x.f1.any oddB = false := by
  unfold badW at h
  simp only [Bool.or_eq_false_iff, Bool.not_eq_false', decide_eq_true_eq, decide_eq_false_iff_not] at h
  exact ⟨h.1.1, h.1.2, h.2⟩
theorem turn_b {b d : Int} {ws : List S51} (h : checkF b d ws = 0) {k : Nat} (hk : k < ws.length) : checkF b d (ws.set k ⟨ws[k].f0, ws[k].f1.reverse, ws[k].f2⟩) = 0 := by
  obtain ⟨h1, h2, h3, h4, h5, h6, h7⟩ := check_ok h
  obtain ⟨g1, g2, g3⟩ := bad_parts (bad_at h4 hk)
  have hp := clus_perm hk (x := ⟨ws[k].f0, ws[k].f1.reverse, ws[k].f2⟩) (List.reverse_perm _)
  rw [check_n h1 h2 (by rw [List.length_set]; exact h3) (any_set hk _ h4 (badW_not (x := ⟨ws[k].f0, ws[k].f1.reverse, ws[k].f2⟩) g1 (by show ¬ ws[k].f1.reverse.length = 0; rw [List.length_reverse]; exact g2) (by show ws[k].f1.reverse.any oddB = false; rw [List.any_reverse]; exact g3))),
    if_neg (by rw [hp.length_eq]; omega), if_neg (fun hn => hn (hp.nodup_iff.2 h6)), set_same0 hk (x := ⟨ws[k].f0, ws[k].f1.reverse, ws[k].f2⟩) rfl, h7]
theorem turn_c {b d : Int} {ws : List S51} (h : checkF b d ws = 0) {k : Nat} (hk : k < ws.length) {c : Int} (hc : c ∈ clus ws) (hl : (clus ws).length < 65535) : checkF b d (ws.set k ⟨ws[k].f0, ws[k].f1 ++ [c], ws[k].f2⟩) = 113 := by
  obtain ⟨h1, h2, h3, h4, h5, h6, h7⟩ := check_ok h
  obtain ⟨g1, g2, g3⟩ := bad_parts (bad_at h4 hk)
  have hp := clus_more hk ws[k].f0 c ws[k].f2
  have ho : oddB c = false := by
    obtain ⟨x, hx, hcx⟩ := List.mem_flatMap.1 hc
    obtain ⟨i, hi, rfl⟩ := List.getElem_of_mem hx
    have := List.any_eq_false.1 (bad_parts (bad_at h4 hi)).2.2 c hcx
    simpa using this
  rw [check_n h1 h2 (by rw [List.length_set]; exact h3) (any_set hk _ h4 (badW_not (x := ⟨ws[k].f0, ws[k].f1 ++ [c], ws[k].f2⟩) g1 (by show ¬ (ws[k].f1 ++ [c]).length = 0; simp) (by show (ws[k].f1 ++ [c]).any oddB = false; rw [List.any_append, g3]; simp [ho]))),
    if_neg (by rw [hp.length_eq, List.length_append, List.length_singleton]; omega), if_pos (fun hn => by
      have := hp.nodup_iff.1 hn
      rw [List.nodup_append] at this
      exact this.2.2 c hc c (by simp) rfl)]
theorem turn_d {b d : Int} {ws : List S51} (h : checkF b d ws = 0) {k : Nat} (hk : k < ws.length) {e : Int} (he : e = (ws.length : Int) ∨ e = k) : checkF b d (ws.set k ⟨ws[k].f0 ++ [e], ws[k].f1, ws[k].f2⟩) = 110 := by
  obtain ⟨h1, h2, h3, h4, h5, h6, h7⟩ := check_ok h
  obtain ⟨g1, g2, g3⟩ := bad_parts (bad_at h4 hk)
  have hp := clus_perm hk (x := ⟨ws[k].f0 ++ [e], ws[k].f1, ws[k].f2⟩) (List.Perm.refl _)
  have hm := ordE_more (g := ws.map (·.f0)) (k := k) (e := e) (by rw [List.length_map]; exact hk) h7 (by rw [List.length_map]; omega)
  rw [List.getElem_map] at hm
  rw [check_n h1 h2 (by rw [List.length_set]; exact h3) (any_set hk _ h4 (badW_not (x := ⟨ws[k].f0 ++ [e], ws[k].f1, ws[k].f2⟩) g1 g2 g3)),
    if_neg (by rw [hp.length_eq]; omega), if_neg (fun hn => hn (hp.nodup_iff.2 h6)), map_set0 hk, hm]
theorem turn_e {b d : Int} {ws : List S51} {k : Nat} (hk : k < ws.length) : checkF b d (ws.set k ⟨ws[k].f0, [], ws[k].f2⟩) = 2 := check_b (any_set_true hk _ (badW_of (.inr (.inl rfl))))
end Go.Proofs.Ytkeadpichlgagaa.Pla
