/- Kept of the text Op: what is reached (wip/tools/prune.py). -/
import Derived.Test.YtnkpleggmiamdaaVWWords
import Derived.ProofKit
import Derived.SizedLaws
import Derived.Deep.Slices
namespace Go.Proofs.Ytnkpleggmiamdaa.Op
open Go.Proofs.YtnkpleggmiamdaaW.PrintWords
open Go.ChangeShapes Go.WideShapes Go.ChangeAt Go.RowKit Go.Deep
set_option linter.unusedVariables false
structure Opens (P : Program) (T : TypeId) {α : Type} (d : Kd α) (ok : α → Prop) : Prop where
  out : ∀ {H : Type} (enc : TypeId × Value → H) (w : World) (base : Nat) (spare : Nat → Bool) (held : Bool) (fuel : Nat) (cs : List Value) (x : DataW H × List MemPlace),
    DataW.trod enc P w base spare held fuel T cs = some x → ∃ a, d.K w a cs ∧ ok a
theorem Opens.imp {P : Program} {T : TypeId} {α : Type} {d : Kd α} {ok ok' : α → Prop} (h : Opens P T d ok) (hk : ∀ a, ok a → ok' a) : Opens P T d ok' :=
  ⟨fun enc w base spare held fuel cs x hx => let ⟨a, h1, h2⟩ := h.out enc w base spare held fuel cs x hx; ⟨a, h1, hk a h2⟩⟩
theorem opens_int {P : Program} {T : TypeId} {k : IntKind} (ht : P.underlying T = some (.int k)) : Opens P T (Kd.int k) (fun n => (Lit.int k n).wf = true) := by
  refine ⟨fun {H} enc w base spare held fuel cs x h => ?_⟩
  obtain ⟨m, rfl, _, hw⟩ := DataW.trod_int ht h
  exact ⟨m, rfl, hw⟩
theorem opens_slice {P : Program} {T e : TypeId} {α : Type} {d : Kd α} {ok : α → Prop} (ht : P.underlying T = some (.slice e)) (hz : P.cellsOf e = d.sz) (h : Opens P e d ok) :
    Opens P T (Kd.slice e d) (fun xs => xs.length ≤ maxLen ∧ ∀ x ∈ xs, ok x) := by
  refine ⟨fun {H} enc w base spare held fuel cs x hx => ?_⟩
  rcases open_slice ht hx with ⟨rfl, _⟩ | ⟨a, len, cap, m, n, D, Pl, rfl, hb, hl, hm, hmm, rfl, hel⟩
  · exact ⟨[], ⟨none, 0, rfl, by simp, Kd.C_nil _ _⟩, by simp, by simp⟩
  · have hlm : len ≤ m := by rw [hmm]; split <;> omega
    have hall : ∀ i : Fin len, ∃ y, ok y ∧ ∃ c, d.K w y c ∧ ∀ q u, c[q]? = some u → w.cell? (a.add (i.1 * d.sz + q)) = some u := by
      intro i
      obtain ⟨cs', h1, h2⟩ := hel i.1 (by have := i.2; omega)
      obtain ⟨y, hy, hoky⟩ := h.out enc w base spare held n cs' _ h2
      refine ⟨y, hoky, cs', hy, fun q u hu => ?_⟩
      obtain ⟨_, hlen, hc⟩ := World.cells?_some h1
      have hq : q < P.cellsOf e := by rw [← hlen]; exact (List.getElem?_eq_some_iff.1 hu).1
      have := hc q hq
      rw [hu] at this
      have e1 : (a.add (i.1 * P.cellsOf e)).add q = a.add (i.1 * d.sz + q) := by rw [hz]; exact Addr.add_add a _ _
      rw [← e1]; exact this
    refine ⟨List.ofFn fun i => Classical.choose (hall i), ⟨some a, cap, by simp, by simpa using hl, by simp, by simp; unfold maxLen at hm; omega, fun _ => ⟨a, rfl, fun j p hp => ?_⟩⟩, by simp; omega, fun y hy => ?_⟩
    · have hj : j < len := by simpa using (List.getElem?_eq_some_iff.1 hp).1
      have hp' : p = Classical.choose (hall ⟨j, hj⟩) := by
        rw [List.getElem?_ofFn, dif_pos hj] at hp
        exact (Option.some.inj hp).symm
      obtain ⟨_, c, hK, hc⟩ := Classical.choose_spec (hall ⟨j, hj⟩)
      exact ⟨c, d.K_len hK, by rw [hp']; exact hK, hc⟩
    · rw [List.mem_ofFn] at hy
      obtain ⟨i, rfl⟩ := hy
      exact (Classical.choose_spec (hall i)).1
theorem Opens.trod {P : Program} {T : TypeId} {α : Type} {d : Kd α} {ok : α → Prop} (h : Opens P T d ok) {H : Type} {enc : TypeId × Value → H} {w : World} {base : Nat} {spare : Nat → Bool} {held : Bool} {v : Value} {D : DataW H} {p : List MemPlace}
    (hv : DataW.Trod enc P w base spare held T v D p) : ∃ a, d.K w a v.cells.toList ∧ ok a := by
  obtain ⟨n, hn⟩ := hv
  exact h.out enc w base spare held n _ _ hn
end Go.Proofs.Ytnkpleggmiamdaa.Op
