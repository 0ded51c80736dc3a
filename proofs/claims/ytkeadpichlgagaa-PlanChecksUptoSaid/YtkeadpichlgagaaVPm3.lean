/- Kept of the text Pm3: what is reached (wip/tools/prune.py). -/
import Derived.Test.YtkeadpichlgagaaVPm2
namespace Go.Proofs.Ytkeadpichlgagaa.Pla
open Go.RowKit Go.Lib Go.Sort Go.Shelf Go.Proofs.YtkeadpichlgagaaW.PrintWords Go.Proofs.YtkeadpichlgagaaW.PrintLast Go.Proofs.YtkeadpichlgagaaW.PrintMore
open Go.Proofs.Ytkeadpichlgagaa.Pl Go.Proofs.Ytkeadpichlgagaa.PlS Go.Proofs.Ytkeadpichlgagaa.Mp
set_option linter.unusedVariables false
set_option linter.unusedSimpArgs false
set_option linter.unnecessarySimpa false
abbrev IntR (w : World) (B : Nat) (v : Value) (xs : List Int) : Prop := (Kd.int .i64).R 3 w B (fun _ => True) v xs
theorem IntR.move {w w1 : World} {B : Nat} {v : Value} {xs : List Int} (h : IntR w B v xs) (hm : ∀ k, v.ownBlock = some k → k < w.heap.size → w1.heap[k]? = w.heap[k]?) : IntR w1 B v xs :=
  Kd.R_mono (Kd.R_step (Kd.R_tight rfl h) (fun k hk hlt => hm k hk.symm hlt)) (fun _ _ => trivial)
theorem own_put {w : World} {B g n cap : Nat} {sz : Nat} {e : TypeId} {cells : List Value} (h : w.ownsRow B e sz (.slice (some ⟨g, 0, none⟩) n cap) n cells) {i : Nat} (hi : i < n * sz) (u : Value) : (w.setCell ⟨g, i, none⟩ u).ownsRow B e sz (.slice (some ⟨g, 0, none⟩) n cap) n (cells.set i u) := by
  obtain ⟨h1, h2⟩ := h
  refine ⟨by rw [List.length_set]; exact h1, ?_⟩
  rcases h2 with ⟨h2, _⟩ | ⟨g', cap', cur, e1, hg, hh, r1, r2, r3, r4⟩
  · cases h2
  · cases e1
    refine .inr ⟨g, cap, cur.setIfInBounds i u, rfl, hg, blk_set hh i u, r1, r2, by simpa using r3, ?_⟩
    rw [Array.toList_setIfInBounds, List.take_set, r4]
end Go.Proofs.Ytkeadpichlgagaa.Pla
namespace Go.Proofs.Ytkeadpichlgagaa.Pla
open Go.Proofs.Ytkeadpichlgagaa.Pl
set_option linter.unusedVariables false
set_option linter.unusedSimpArgs false
set_option linter.unnecessarySimpa false
theorem clus_cons (x : S51) (b : List S51) : clus (x :: b) = x.f1 ++ clus b := by unfold clus; rw [List.flatMap_cons]
end Go.Proofs.Ytkeadpichlgagaa.Pla
