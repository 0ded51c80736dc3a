/- How an argument's reading gives the row facts that the walks use: kind by kind. Nothing of the program is named. -/
import Derived.Test.YtnkpleggmiamdaaWWords
import Derived.ProofKit
import Derived.SizedLaws
import Derived.Deep.Slices
namespace Go.Proofs.Ytnkpleggmiamdaa.Op
open Go.Proofs.YtnkpleggmiamdaaW.PrintWords
open Go.ChangeShapes Go.WideShapes Go.ChangeAt Go.RowKit Go.Deep
set_option linter.unusedVariables false

/-- Whatever reads as type T is of the kind d, and ok. -/
structure Opens (P : Program) (T : TypeId) {α : Type} (d : Kd α) (ok : α → Prop) : Prop where
  out : ∀ {H : Type} (enc : TypeId × Value → H) (w : World) (base : Nat) (spare : Nat → Bool) (held : Bool) (fuel : Nat) (cs : List Value) (x : DataW H × List MemPlace),
    DataW.trod enc P w base spare held fuel T cs = some x → ∃ a, d.K w a cs ∧ ok a

theorem Opens.imp {P : Program} {T : TypeId} {α : Type} {d : Kd α} {ok ok' : α → Prop} (h : Opens P T d ok) (hk : ∀ a, ok a → ok' a) : Opens P T d ok' :=
  ⟨fun enc w base spare held fuel cs x hx => let ⟨a, h1, h2⟩ := h.out enc w base spare held fuel cs x hx; ⟨a, h1, hk a h2⟩⟩

theorem opens_int {P : Program} {T : TypeId} {k : IntKind} (ht : P.underlying T = some (.int k)) : Opens P T (Kd.int k) (fun n => (Lit.int k n).wf = true) := by
  refine ⟨fun {H} enc w base spare held fuel cs x h => ?_⟩
  obtain ⟨m, rfl, _, hw⟩ := DataW.trod_int ht h
  exact ⟨m, rfl, hw⟩
theorem opens_bool {P : Program} {T : TypeId} (ht : P.underlying T = some .bool) : Opens P T Kd.bool (fun _ => True) := by
  refine ⟨fun {H} enc w base spare held fuel cs x h => ?_⟩
  obtain ⟨m, rfl, _⟩ := DataW.trod_bool ht h
  exact ⟨m, rfl, trivial⟩
theorem opens_string {P : Program} {T : TypeId} (ht : P.underlying T = some .string) : Opens P T Kd.string (fun s => s.size ≤ maxLen) := by
  refine ⟨fun {H} enc w base spare held fuel cs x h => ?_⟩
  obtain ⟨m, rfl, _, hw⟩ := DataW.trod_string ht h
  exact ⟨m, rfl, hw⟩

theorem opens_slice {P : Program} {T e : TypeId} {α : Type} {d : Kd α} {ok : α → Prop} (ht : P.underlying T = some (.slice e)) (hz : P.cellsOf e = d.sz) (h : Opens P e d ok) :
    Opens P T (Kd.slice e d) (fun xs => xs.length ≤ maxLen ∧ ∀ x ∈ xs, ok x) := by
  refine ⟨fun {H} enc w base spare held fuel cs x hx => ?_⟩
  rcases open_slice ht hx with ⟨rfl, _⟩ | ⟨a, len, cap, m, n, D, Pl, rfl, hb, hl, hm, hmm, rfl, hel⟩
  · exact ⟨[], ⟨none, 0, rfl, by simp, Kd.C_nil _ _⟩, by simp, by simp⟩
  · have hlm : len ≤ m := by rw [hmm]; split <;> omega
    have hall : ∀ i : Fin len, ∃ y, ok y ∧ ∃ c, d.K w y c ∧ ∀ q u, c[q]? = some u → w.cell? (a.add (i.1 * d.sz + q)) = some u := by
      intro i
      obtain ⟨cs', h1, h2⟩ := hel i.1 (by have := i.2; omega)
      obtain ⟨y, hy, hoky⟩ := h.out enc w base spare held n cs' _ h2
      refine ⟨y, hoky, cs', hy, fun q u hu => ?_⟩
      obtain ⟨_, hlen, hc⟩ := World.cells?_some h1
      have hq : q < P.cellsOf e := by rw [← hlen]; exact (List.getElem?_eq_some_iff.1 hu).1
      have := hc q hq
      rw [hu] at this
      have e1 : (a.add (i.1 * P.cellsOf e)).add q = a.add (i.1 * d.sz + q) := by rw [hz]; exact Addr.add_add a _ _
      rw [← e1]; exact this
    refine ⟨List.ofFn fun i => Classical.choose (hall i), ⟨some a, cap, by simp, by simpa using hl, by simp, by simp; unfold maxLen at hm; omega, fun _ => ⟨a, rfl, fun j p hp => ?_⟩⟩, by simp; omega, fun y hy => ?_⟩
    · have hj : j < len := by simpa using (List.getElem?_eq_some_iff.1 hp).1
      have hp' : p = Classical.choose (hall ⟨j, hj⟩) := by
        rw [List.getElem?_ofFn, dif_pos hj] at hp
        exact (Option.some.inj hp).symm
      obtain ⟨_, c, hK, hc⟩ := Classical.choose_spec (hall ⟨j, hj⟩)
      exact ⟨c, d.K_len hK, by rw [hp']; exact hK, hc⟩
    · rw [List.mem_ofFn] at hy
      obtain ⟨i, rfl⟩ := hy
      exact (Classical.choose_spec (hall i)).1

/-- The fields of a struct from a place on. -/
structure Fields (P : Program) (fs : List Field) (off : Nat) {α : Type} (d : Kd α) (ok : α → Prop) : Prop where
  out : ∀ {H : Type} (enc : TypeId × Value → H) (w : World) (base : Nat) (spare : Nat → Bool) (held : Bool) (fuel : Nat) (cs : List Value),
    off + d.sz ≤ cs.length → (∀ f ∈ fs, ∃ y, DataW.trod enc P w base spare held fuel f.type ((cs.drop f.offset).take (P.cellsOf f.type)) = some y) → ∃ a, d.K w a ((cs.drop off).take d.sz) ∧ ok a

theorem fields_one {P : Program} {f : Field} {off : Nat} {α : Type} {d : Kd α} {ok : α → Prop} (h : Opens P f.type d ok) (ho : f.offset = off) (hz : P.cellsOf f.type = d.sz) : Fields P [f] off d ok := by
  refine ⟨fun {H} enc w base spare held fuel cs hl hf => ?_⟩
  obtain ⟨y, hy⟩ := hf f (by simp)
  rw [ho, hz] at hy
  exact h.out enc w base spare held fuel _ _ hy
theorem fields_cons {P : Program} {f : Field} {fs : List Field} {off : Nat} {α β : Type} {d : Kd α} {d' : Kd β} {ok : α → Prop} {ok' : β → Prop} (h : Opens P f.type d ok) (ho : f.offset = off) (hz : P.cellsOf f.type = d.sz)
    (h' : Fields P fs (off + d.sz) d' ok') : Fields P (f :: fs) off (Kd.pair d d') (fun x => ok x.1 ∧ ok' x.2) := by
  refine ⟨fun {H} enc w base spare held fuel cs hl hf => ?_⟩
  have hl' : off + d.sz + d'.sz ≤ cs.length := by have : (Kd.pair d d').sz = d.sz + d'.sz := rfl; omega
  obtain ⟨y, hy⟩ := hf f (by simp)
  rw [ho, hz] at hy
  obtain ⟨a, h1, h2⟩ := h.out enc w base spare held fuel _ _ hy
  obtain ⟨b, h3, h4⟩ := h'.out enc w base spare held fuel cs hl' (fun g hg => hf g (by simp [hg]))
  refine ⟨(a, b), ⟨_, _, ?_, h1, h3⟩, h2, h4⟩
  show (cs.drop off).take (d.sz + d'.sz) = _
  rw [List.take_add, List.drop_drop]

theorem opens_struct {P : Program} {T : TypeId} {fs : Array Field} {α β : Type} {d : Kd α} {ok : α → Prop} (g : β → α) (gi : α → β) (hg : ∀ a, g (gi a) = a) (ht : P.underlying T = some (.struct fs)) (hz : P.cellsOf T = d.sz) (h : Fields P fs.toList 0 d ok) :
    Opens P T (Kd.iso d g) (fun x => ok (g x)) := by
  refine ⟨fun {H} enc w base spare held fuel cs x hx => ?_⟩
  obtain ⟨xs, n, rfl, _, hl, hlen, hf⟩ := DataW.trod_struct ht hx
  obtain ⟨a, h1, h2⟩ := h.out enc w base spare held n cs (by omega) (fun f hf' => by
    obtain ⟨i, hi, rfl⟩ := List.getElem_of_mem hf'
    have hi' : i < fs.size := by simpa using hi
    refine ⟨xs[i]'(by omega), ?_⟩
    rw [hf i _ (by simp), List.getElem?_eq_getElem])
  rw [List.drop_zero, List.take_of_length_le (by omega)] at h1
  exact ⟨gi a, by show d.K w (g (gi a)) cs; rw [hg]; exact h1, by show ok (g (gi a)); rw [hg]; exact h2⟩

/-- An argument's reading. -/
theorem Opens.trod {P : Program} {T : TypeId} {α : Type} {d : Kd α} {ok : α → Prop} (h : Opens P T d ok) {H : Type} {enc : TypeId × Value → H} {w : World} {base : Nat} {spare : Nat → Bool} {held : Bool} {v : Value} {D : DataW H} {p : List MemPlace}
    (hv : DataW.Trod enc P w base spare held T v D p) : ∃ a, d.K w a v.cells.toList ∧ ok a := by
  obtain ⟨n, hn⟩ := hv
  exact h.out enc w base spare held n _ _ hn

end Go.Proofs.Ytnkpleggmiamdaa.Op
