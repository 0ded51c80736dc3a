/- Kept of the text Py3: what is reached (wip/tools/prune.py). -/
import Derived.Test.YtcdlccnpbhjgkaaVPy2
namespace Go.Proofs.Ytcdlccnpbhjgkaa.Oo
open Go.RowKit Go.Maps Go.Proofs.YtcdlccnpbhjgkaaW.PrintWords Go.Proofs.YtcdlccnpbhjgkaaW.PrintLast Go.Proofs.YtcdlccnpbhjgkaaW.PrintMore
open Go.Proofs.Ytcdlccnpbhjgkaa.POrderBytes
set_option linter.unusedVariables false
set_option linter.unusedSimpArgs false
theorem w_succ {i : Nat} (h : i ≤ 1000) : wrap64 ((i : Int) + 1) = ((i + 1 : Nat) : Int) := by unfold wrap64; omega
theorem orders_same (os : List S82) (hl : os.length ≤ 1000) : Ev (fun k => echelonlaw19_orders.f k os os) true := by
  have main : ∀ (d i : Nat), i + d = os.length → Ev (fun k => echelonlaw19_orders.l0 k os os (i : Int)) true := by
    intro d
    induction d with
    | zero =>
      intro i h
      refine Ev.step (f := fun k => some true) (fun k => ?_) (Ev.now _)
      conv => lhs; unfold echelonlaw19_orders.l0
      rw [if_neg (by omega)]
    | succ d ih =>
      intro i h
      refine Ev.step (f := fun k => echelonlaw19_orders.l0 k os os ((i + 1 : Nat) : Int)) (fun k => ?_) (ih (i + 1) (by omega))
      conv => lhs; unfold echelonlaw19_orders.l0
      rw [if_pos (by omega), if_pos (by omega), if_pos (by omega), if_neg (by simp), w_succ (by omega)]
  refine Ev.congr (f := fun k => echelonlaw19_orders.l0 k os os ((0 : Nat) : Int)) (fun k => ?_) (main os.length 0 (by omega))
  unfold echelonlaw19_orders.f
  rw [if_pos rfl]
  rfl
theorem reports_same (os : List S99) (hl : os.length ≤ 1000) : Ev (fun k => echelonlaw19_reports.f k os os) true := by
  have main : ∀ (d i : Nat), i + d = os.length → Ev (fun k => echelonlaw19_reports.l0 k os os (i : Int)) true := by
    intro d
    induction d with
    | zero =>
      intro i h
      refine Ev.step (f := fun k => some true) (fun k => ?_) (Ev.now _)
      conv => lhs; unfold echelonlaw19_reports.l0
      rw [if_neg (by omega)]
    | succ d ih =>
      intro i h
      refine Ev.step (f := fun k => echelonlaw19_reports.l0 k os os ((i + 1 : Nat) : Int)) (fun k => ?_) (ih (i + 1) (by omega))
      conv => lhs; unfold echelonlaw19_reports.l0
      rw [if_pos (by omega), if_pos (by omega), if_pos (by omega), if_neg (by simp), w_succ (by omega)]
  refine Ev.congr (f := fun k => echelonlaw19_reports.l0 k os os ((0 : Nat) : Int)) (fun k => ?_) (main os.length 0 (by omega))
  unfold echelonlaw19_reports.f
  rw [if_pos rfl]
  rfl
end Go.Proofs.Ytcdlccnpbhjgkaa.Oo
