/- Kept of the text Pm5: what is reached (wip/tools/prune.py). -/
import Derived.Test.YtkeadpichlgagaaVPm3
import Derived.Test.YtkeadpichlgagaaVPm4
namespace Go.Proofs.Ytkeadpichlgagaa.Pla
open Go.RowKit Go.Lib Go.Sort Go.Shelf Go.Proofs.YtkeadpichlgagaaW.PrintWords Go.Proofs.YtkeadpichlgagaaW.PrintLast Go.Proofs.YtkeadpichlgagaaW.PrintMore
open Go.Proofs.Ytkeadpichlgagaa.Pl Go.Proofs.Ytkeadpichlgagaa.PlS Go.Proofs.Ytkeadpichlgagaa.Mp
set_option linter.unusedVariables false
set_option linter.unusedSimpArgs false
set_option linter.unnecessarySimpa false
end Go.Proofs.Ytkeadpichlgagaa.Pla
namespace Go.Proofs.Ytkeadpichlgagaa.Pla
open Go.RowKit Go.Lib Go.Sort Go.Shelf Go.Proofs.YtkeadpichlgagaaW.PrintWords Go.Proofs.YtkeadpichlgagaaW.PrintLast Go.Proofs.YtkeadpichlgagaaW.PrintMore
open Go.Proofs.Ytkeadpichlgagaa.Pl Go.Proofs.Ytkeadpichlgagaa.PlS Go.Proofs.Ytkeadpichlgagaa.Mp
set_option linter.unusedVariables false
set_option linter.unusedSimpArgs false
set_option linter.unnecessarySimpa false
end Go.Proofs.Ytkeadpichlgagaa.Pla
namespace Go.Proofs.Ytkeadpichlgagaa.Pla
open Go.RowKit Go.Lib Go.Sort Go.Shelf Go.Proofs.YtkeadpichlgagaaW.PrintWords Go.Proofs.YtkeadpichlgagaaW.PrintLast Go.Proofs.YtkeadpichlgagaaW.PrintMore
open Go.Proofs.Ytkeadpichlgagaa.Pl Go.Proofs.Ytkeadpichlgagaa.PlS Go.Proofs.Ytkeadpichlgagaa.Mp
set_option linter.unusedVariables false
set_option linter.unusedSimpArgs false
set_option linter.unnecessarySimpa false
theorem row_put {w : World} {B gc n cap : Nat} {xs : List Int} (h : IntR w B (.slice (some ⟨gc, 0, none⟩) n cap) xs) (hn : n = xs.length) {i : Nat} (hi : i < n) (a : Int) : IntR (w.setCell ⟨gc, i, none⟩ (.int .i64 a)) B (.slice (some ⟨gc, 0, none⟩) n cap) (xs.set i a) := by
  subst hn
  have ho := Kd.own_of_R h
  have h2 := own_put ho (i := i) (by omega) (.int .i64 a)
  refine Kd.R_of_own (α := Int) (enc := Value.int .i64) (h1 := fun _ => rfl) ?_ (fun _ _ => trivial)
  rw [List.length_set]
  have e : (encs (Value.int .i64) xs).set i (Value.int .i64 a) = encs (Value.int .i64) (xs.set i a) := by unfold encs; rw [List.map_set]
  rw [← e]
  exact h2
theorem row_at {w : World} {B gc n cap : Nat} {xs : List Int} (h : IntR w B (.slice (some ⟨gc, 0, none⟩) n cap) xs) (hn : n = xs.length) {i : Nat} (hi : i < n) : w.cell? ⟨gc, i, none⟩ = some (.int .i64 (xs.getD i 0)) ∧ w.frozen? ⟨gc, i, none⟩ = false := by
  subst hn
  obtain ⟨_, _, hC⟩ := Kd.R_reads' h
  obtain ⟨pd, e, y⟩ := Kd.at_int hC (i : Int) (by omega) (by omega)
  cases e
  rw [Int.toNat_natCast, add_plain] at y
  obtain ⟨cur, hcur⟩ := own_typed (Kd.own_of_R h) gc rfl
  exact ⟨y, blk_frozen hcur i⟩
end Go.Proofs.Ytkeadpichlgagaa.Pla
namespace Go.Proofs.Ytkeadpichlgagaa.Pla
open Go.RowKit Go.Lib Go.Sort Go.Shelf Go.Proofs.YtkeadpichlgagaaW.PrintWords Go.Proofs.YtkeadpichlgagaaW.PrintLast Go.Proofs.YtkeadpichlgagaaW.PrintMore
open Go.Proofs.Ytkeadpichlgagaa.Pl Go.Proofs.Ytkeadpichlgagaa.PlS Go.Proofs.Ytkeadpichlgagaa.Mp
set_option linter.unusedVariables false
set_option linter.unusedSimpArgs false
set_option linter.unnecessarySimpa false
theorem sizeN_cons (x : S51) (b : List S51) : sizeN (x :: b) = 1 + x.f0.length + x.f1.length + sizeN b := by unfold sizeN; rw [List.map_cons, List.sum_cons]
theorem sizeN_bd : ∀ ws : List S51, ws.length ≤ sizeN ws ∧ (∀ x ∈ ws, x.f0.length + x.f1.length ≤ sizeN ws) ∧ (clus ws).length ≤ sizeN ws
  | [] => by simp [sizeN, clus]
  | x :: l => by
    obtain ⟨a, b, c⟩ := sizeN_bd l
    rw [sizeN_cons, clus_cons, List.length_append, List.length_cons]
    refine ⟨by omega, fun y hy => ?_, by omega⟩
    rcases List.mem_cons.1 hy with rfl | hy
    · omega
    · have := b y hy; omega
end Go.Proofs.Ytkeadpichlgagaa.Pla
