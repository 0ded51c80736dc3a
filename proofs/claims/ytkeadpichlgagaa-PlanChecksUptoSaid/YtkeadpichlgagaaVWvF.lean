/- Kept of the text WvF: what is reached (wip/tools/prune.py). -/
import Derived.Test.YtkeadpichlgagaaVWvE
namespace Go.Proofs.Ytkeadpichlgagaa.Wv
open Go.RowKit Go.Maps Go.Proofs.YtkeadpichlgagaaW.PrintWords Go.Proofs.YtkeadpichlgagaaW.PrintLast Go.Proofs.YtkeadpichlgagaaW.PrintMore
open Go.Proofs.Ytkeadpichlgagaa.PWaveReady Go.Proofs.Ytkeadpichlgagaa.Mp
set_option linter.unusedVariables false
set_option linter.unusedSimpArgs false
set_option linter.unnecessarySimpa false
structure OA (w0 w : World) (ab : Nat) (vl v : Value) (ls : List Int) (q : Q) : Prop where
  bel : Below w0.heap.size w0 w
  left : (Kd.int .i64).R 3 w w0.heap.size (fun _ => True) vl ls
  q : QIs w w0.heap.size ab v q
  ab0 : w0.heap.size ≤ ab
  nq : ∀ k, v.ownBlock = some k → vl.ownBlock ≠ some k
section
variable {w0 w w' : World} {ab : Nat} {vl v v' : Value} {ls : List Int} {q q' : Q}
theorem OA.nl (h : OA w0 w ab vl v ls q) : vl.ownBlock ≠ some ab := (Kd.R_ne h.left h.q.blk (by decide)).symm
theorem OA.lt (h : OA w0 w ab vl v ls q) : ab < w.heap.size := blk_lt h.q.blk
theorem OA.next (h : OA w0 w ab vl v ls q) (hb : Below w.heap.size w w') : OA w0 w' ab vl v ls q :=
  ⟨h.bel.trans (hb.mono h.bel.size), Kd.R_below h.left hb, h.q.below hb, h.ab0, h.nq⟩
theorem OA.turn (h : OA w0 w ab vl v ls q) (ht : Turn ab v v' w w') (hq : QIs w' w0.heap.size ab v' q') : OA w0 w' ab vl v' ls q' := by
  refine ⟨h.bel.trans (ht.1.to_below (fun k hk => ?_) h.bel.size), Ri_move h.left (fun k hk => ht.1.block k (Kd.R_lt h.left k hk) (fun e => ?_)), hq, h.ab0, fun k hk hl => ?_⟩
  · rcases hk with rfl | hk
    · exact h.ab0
    · exact Kd.R_base h.q.row k hk
  · rcases e with rfl | e
    · exact h.nl hk
    · exact h.nq k e hk
  · rcases ht.2 with e | ⟨b, e, hb⟩
    · rw [e] at hk; exact h.nq k hk hl
    · have := Kd.R_lt h.left k hl
      rw [e] at hk
      injection hk with hk
      omega
theorem OA.put {gb N c : Nat} (h : OA w0 w ab (.slice (some ⟨gb, 0, none⟩) N c) v ls q) (i : Nat) (x : Int) : OA w0 (w.setCell ⟨gb, i, none⟩ (.int .i64 x)) ab (.slice (some ⟨gb, 0, none⟩) N c) v (ls.set i x) q := by
  have hg : gb ≠ ab := fun e => h.nl (by rw [← e]; rfl)
  have hl := h.left
  obtain ⟨rfl, _, _⟩ := Kd.R_reads' hl
  have h0 : w0.heap.size ≤ gb := Kd.R_base hl gb rfl
  refine ⟨h.bel.setCell h0 _, ?_, ⟨blk_far h.q.blk (p := ⟨gb, i, none⟩) hg.symm _, Ri_move h.q.row (fun k hk => Below.heap_setCell w _ _ k (fun e => h.nq k hk (by show some gb = some k; rw [e])))⟩, h.ab0, h.nq⟩
  have := (Kd.R_put hl (i : Int) x).1
  rwa [Int.toNat_natCast] at this
theorem OA.cell {gb N c : Nat} (h : OA w0 w ab (.slice (some ⟨gb, 0, none⟩) N c) v ls q) {i : Nat} (hi : i < N) : w.cell? ⟨gb, i, none⟩ = some (.int .i64 (rd ls (i : Int))) ∧ w.frozen? ⟨gb, i, none⟩ = false := by
  have hl := h.left
  obtain ⟨rfl, _, _⟩ := Kd.R_reads' hl
  have := Kd.R_cell 0 hl (i : Int) (by omega) (by omega)
  rwa [Int.toNat_natCast] at this
theorem OA.form {N : Nat} (h : OA w0 w ab vl v ls q) (hl : ls.length = N) (hp : 0 < N) : ∃ gb c, vl = .slice (some ⟨gb, 0, none⟩) N c ∧ gb ≠ ab ∧ ab ≠ gb := by
  obtain ⟨gb, c, rfl, _, _, _⟩ := Kd.R_form h.left (by omega)
  have hg : gb ≠ ab := fun e => h.nl (by rw [← e]; rfl)
  exact ⟨gb, c, by rw [hl], hg, hg.symm⟩
end
structure OI (w0 w : World) (ab s1 s2 : Nat) (vl v vd vx vo : Value) (ls : List Int) (q : Q) (ds : List (List Int)) (xs out : List Int) : Prop where
  a : OA w0 w ab vl v ls q
  s : ab < s1 ∧ s1 ≤ s2 ∧ s2 ≤ w.heap.size
  l1 : ∀ k, vl.ownBlock = some k → k < s1
  qd : ∀ k, v.ownBlock = some k → ¬ (s1 ≤ k ∧ k < s2) ∧ vo.ownBlock ≠ some k
  dn : (Kd.slice 3 (Kd.int .i64)).R 25 w s1 (fun k => s1 ≤ k ∧ k < s2) vd ds
  x : (Kd.int .i64).R 3 w s1 (fun k => s1 ≤ k ∧ k < s2) vx xs
  out : (Kd.int .i64).R 3 w s2 (fun _ => True) vo out
section
variable {w0 w w' : World} {ab s1 s2 : Nat} {vl v v' vd vx vo vo' : Value} {ls : List Int} {q q' : Q} {ds : List (List Int)} {xs out out' : List Int}
theorem OI.next (h : OI w0 w ab s1 s2 vl v vd vx vo ls q ds xs out) (hb : Below w.heap.size w w') : OI w0 w' ab s1 s2 vl v vd vx vo ls q ds xs out :=
  ⟨h.a.next hb, ⟨h.s.1, h.s.2.1, Nat.le_trans h.s.2.2 hb.size⟩, h.l1, h.qd, Kd.R_below h.dn hb, Kd.R_below h.x hb, Kd.R_below h.out hb⟩
theorem OI.turn (h : OI w0 w ab s1 s2 vl v vd vx vo ls q ds xs out) (ht : Turn ab v v' w w') (hq : QIs w' w0.heap.size ab v' q') : OI w0 w' ab s1 s2 vl v' vd vx vo ls q' ds xs out := by
  obtain ⟨p1, p2, p3⟩ := h.s
  have hm : ∀ k, s1 ≤ k ∧ k < s2 → w'.heap[k]? = w.heap[k]? := fun k hk => ht.1.block k (by omega) (fun e => by
    rcases e with rfl | e
    · omega
    · exact (h.qd k e).1 hk)
  refine ⟨h.a.turn ht hq, ⟨p1, p2, Nat.le_trans p3 ht.1.size⟩, h.l1, fun k hk => ?_, Kd.R_move h.dn hm, Kd.R_move h.x hm, Ri_move h.out (fun k hk => ht.1.block k (Kd.R_lt h.out k hk) (fun e => ?_))⟩
  · rcases ht.2 with e | ⟨b, e, hb⟩
    · rw [e] at hk; exact h.qd k hk
    · rw [e] at hk
      injection hk with hk
      refine ⟨fun hh => by omega, fun ho => ?_⟩
      have := Kd.R_lt h.out k ho
      omega
  · rcases e with rfl | e
    · have := Kd.R_base h.out _ hk; omega
    · exact (h.qd k e).2 hk
theorem OI.put {gb N c : Nat} (h : OI w0 w ab s1 s2 (.slice (some ⟨gb, 0, none⟩) N c) v vd vx vo ls q ds xs out) (i : Nat) (x : Int) :
    OI w0 (w.setCell ⟨gb, i, none⟩ (.int .i64 x)) ab s1 s2 (.slice (some ⟨gb, 0, none⟩) N c) v vd vx vo (ls.set i x) q ds xs out := by
  obtain ⟨p1, p2, p3⟩ := h.s
  have hg : gb < s1 := h.l1 gb rfl
  have hm : ∀ k, s1 ≤ k ∧ k < s2 → (w.setCell ⟨gb, i, none⟩ (.int .i64 x)).heap[k]? = w.heap[k]? := fun k hk => Below.heap_setCell w _ _ k (by show k ≠ gb; omega)
  refine ⟨h.a.put i x, ⟨p1, p2, by simpa [World.setCell] using p3⟩, h.l1, h.qd, Kd.R_move h.dn hm, Kd.R_move h.x hm, Ri_move h.out (fun k hk => Below.heap_setCell w _ _ k (by have := Kd.R_base h.out k hk; show k ≠ gb; omega))⟩
theorem OI.app (h : OI w0 w ab s1 s2 vl v vd vx vo ls q ds xs out) (hr : (Kd.int .i64).R 3 w' s2 (fun _ => True) vo' out') (hg : w.grownBy w' vo.ownBlock) (hat : vo'.ownBlock = vo.ownBlock ∨ ∃ b, vo'.ownBlock = some b ∧ w.heap.size ≤ b) :
    OI w0 w' ab s1 s2 vl v vd vx vo' ls q ds xs out' := by
  obtain ⟨p1, p2, p3⟩ := h.s
  have hb : Below s2 w w' := ⟨hg.os, hg.tape, hg.output, hg.size, fun k hk => hg.block k (by omega) (fun e => by have := Kd.R_base h.out k e.symm; omega)⟩
  have hm : ∀ k, s1 ≤ k ∧ k < s2 → w'.heap[k]? = w.heap[k]? := fun k hk => hb.block k hk.2
  have hq0 : ∀ k, v.ownBlock = some k → w'.heap[k]? = w.heap[k]? := fun k hk => hg.block k (Kd.R_lt h.a.q.row k hk) (fun e => (h.qd k hk).2 e.symm)
  refine ⟨⟨h.a.bel.trans (hb.mono (by have := h.a.ab0; omega)), Ri_move h.a.left (fun k hk => hb.block k (by have := h.l1 k hk; omega)), ⟨(hb.block ab (by omega)).trans h.a.q.blk, Ri_move h.a.q.row hq0⟩, h.a.ab0, h.a.nq⟩, ⟨p1, p2, Nat.le_trans p3 hg.size⟩, h.l1, fun k hk => ⟨(h.qd k hk).1, fun e => ?_⟩, Kd.R_move h.dn hm, Kd.R_move h.x hm, hr⟩
  rcases hat with e' | ⟨b, e', hb'⟩
  · exact (h.qd k hk).2 (by rw [← e']; exact e)
  · rw [e'] at e
    injection e with e
    have := Kd.R_lt h.a.q.row k hk
    omega
theorem OI.of (h : OA w0 w ab vl v ls q) (hd : (Kd.slice 3 (Kd.int .i64)).R 25 w' w.heap.size (fun _ => True) vd ds) (hb : Below w.heap.size w w') : OI w0 w' ab w.heap.size w'.heap.size vl v vd (.slice none 0 0) (.slice none 0 0) ls q ds [] [] :=
  ⟨h.next hb, ⟨h.lt, hb.size, Nat.le_refl _⟩, fun k hk => Kd.R_lt h.left k hk, fun k hk => ⟨fun e => by have := Kd.R_lt h.q.row k hk; omega, by simp [Value.ownBlock]⟩, Kd.R_mono (Kd.R_bound hd) (fun k hk => ⟨hk.2.1, hk.2.2.1⟩), Kd.R_nil _ _ _ _ _, Kd.R_nil _ _ _ _ _⟩
theorem OI.row (h : OI w0 w ab s1 s2 vl v vd vx vo ls q ds xs out) (i : Nat) (hi : i < ds.length) : ∃ ad c vr, vd = .slice (some ad) ds.length c ∧ w.cell? (ad.add i) = some vr ∧ OI w0 w ab s1 s2 vl v vd vr vo ls q ds (rd_L1 ds (i : Int)) out := by
  obtain ⟨g, cap, rfl, _, _, _⟩ := Kd.R_form h.dn (by omega)
  obtain ⟨c, hc, hM, hcell⟩ := Kd.R_getA h.dn ([] : List Int) (i : Int) (by omega) (by omega)
  obtain ⟨vr, rfl, hr⟩ := hM
  have h1 := hcell 0 vr rfl
  have e : (i : Int).toNat * (Kd.slice 3 (Kd.int .i64)).sz + 0 = i := by rw [Int.toNat_natCast]; exact Nat.mul_one i
  rw [e] at h1
  exact ⟨_, cap, vr, rfl, h1, ⟨h.a, h.s, h.l1, h.qd, h.dn, Kd.R_mono hr (fun k hk => hk.1), h.out⟩⟩
end
end Go.Proofs.Ytkeadpichlgagaa.Wv
