/- Kept of the text MoM: what is reached (wip/tools/prune.py). -/
import Derived.Test.YtnkpleggmiamdaaVMoL
namespace Go.Proofs.Ytnkpleggmiamdaa.Mo
open Go.RowKit Go.Maps Go.Proofs.YtnkpleggmiamdaaW.PrintWords Go.Proofs.YtnkpleggmiamdaaW.PrintLast Go.Proofs.YtnkpleggmiamdaaW.PrintMore
open Go.Proofs.Ytnkpleggmiamdaa.PSessionParses Go.Proofs.Ytnkpleggmiamdaa.Mp
set_option linter.unusedVariables false
set_option linter.unusedSimpArgs false
def ParseQ (l : List UInt8) (w : World) (e : Ending) (w' : World) : Prop :=
  Below w.heap.size w w' ∧ ((parseF l = none ∧ e = .returned (.pointer none)) ∨ ∃ k g, parseF l = some k ∧ e = .returned (.pointer (some ⟨g, 0, none⟩)) ∧ KindIs w' (fun j => w.heap.size ≤ j) k g)
set_option maxHeartbeats 1000000 in
set_option maxRecDepth 100000 in
theorem parse_calls (l : List UInt8) (w : World) : Calls Try.prog 79 #[.string (str l)] w (ParseQ l w) := by
  have hsz := str_size l
  by_cases h : 64 < l.length
  · have hb : decide ((64 : Int) < ((str l).size : Int)) = true := decide_eq_true (by omega)
    have HP : Aside0 (parseF l = none) := ⟨by unfold parseF; rw [if_pos h]⟩
    clear hsz h
    generalize str l = b at hb ⊢
    go_enter Try.func79, Try.ntmps79
    go_wp2_with fail
    go_ret
    exact ⟨Below.refl _ _, .inl ⟨HP.out, rfl⟩⟩
  · have hb : decide ((64 : Int) < ((str l).size : Int)) = false := decide_eq_false (by omega)
    have HP : Aside0 (parseF l = match pt (2 * l.length + 1) 0 l with
      | some (k, []) => some k
      | _ => none) := ⟨by
        unfold parseF
        rw [if_neg h]
        cases pt (2 * l.length + 1) 0 l with
        | none => rfl
        | some p =>
          obtain ⟨k, r⟩ := p
          cases r <;> rfl⟩
    have HC := Aside0.mk (part_calls l.length l (Nat.le_refl _) 0 w.heap.size (w.alloc (.cells #[.string (str l), .bool false] 153)) (by omega) (by omega) (blk_new w _))
    have HBL : Aside0 (Below w.heap.size w (w.alloc (.cells #[.string (str l), .bool false] 153))) := ⟨(Below.refl _ _).alloc (Nat.le_refl _) _⟩
    clear hsz h
    obtain ⟨b, hbb⟩ : ∃ b, str l = b := ⟨_, rfl⟩
    rw [hbb] at hb HC HBL ⊢
    clear hbb
    go_enter Try.func79, Try.ntmps79
    go_wp2_with fail
    refine HC.out.mono ?_
    rintro e w2 ⟨g, rfl, hg1, hg2, hf, hq⟩
    have HF := Aside0.mk hf
    have HB2 : Aside0 (Below w.heap.size w w2) := ⟨HBL.out.trans (hf.to_below (fun k hk => by have e : k = w.heap.size := hk; omega) HBL.out.size)⟩
    clear HC hg1 hg2 hf
    rcases hq with ⟨k, r, h1, h2, h3⟩ | ⟨h1, r, h2⟩
    · have c0 : w2.cell? ⟨w.heap.size, 0, none⟩ = some (.string (str r)) := (blk_cell h2 0).trans rfl
      have c1 : w2.cell? ⟨w.heap.size, 1, none⟩ = some (.bool false) := (blk_cell h2 1).trans rfl
      have HK := Aside0.mk h3
      rw [h1] at HP
      clear h1 h2 h3
      cases r with
      | nil =>
        have hn := str_nil
        go_wp2_with fail
        go_ret
        exact ⟨HB2.out, .inr ⟨k, g, HP.out, rfl, HK.out.mono (fun j hj => Nat.le_trans HBL.out.size hj)⟩⟩
      | cons x r =>
        have hbe := str_ne (c := x) (s := r)
        generalize str (x :: r) = bb at c0 hbe
        go_wp2_with fail
        go_ret
        exact ⟨HB2.out, .inl ⟨HP.out, rfl⟩⟩
    · have c0 : w2.cell? ⟨w.heap.size, 0, none⟩ = some (.string (str r)) := (blk_cell h2 0).trans rfl
      have c1 : w2.cell? ⟨w.heap.size, 1, none⟩ = some (.bool true) := (blk_cell h2 1).trans rfl
      rw [h1] at HP
      clear h1 h2
      generalize str r = bb at c0
      go_wp2_with fail
      go_ret
      exact ⟨HB2.out, .inl ⟨HP.out, rfl⟩⟩
end Go.Proofs.Ytnkpleggmiamdaa.Mo
