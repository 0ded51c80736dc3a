/- Kept of the text Pm6: what is reached (wip/tools/prune.py). -/
import Derived.Test.YtkeadpichlgagaaVWWords
import Derived.ProofKit
import Derived.SizedLaws
import Derived.Deep.Slices
import Derived.Test.YtkeadpichlgagaaRows
namespace Go.Proofs.Ytkeadpichlgagaa.Op
open Go.Proofs.YtkeadpichlgagaaW.PrintWords
open Go.ChangeShapes Go.WideShapes Go.ChangeAt Go.RowKit Go.Deep
set_option linter.unusedVariables false
structure Opens (P : Program) (T : TypeId) {α : Type} (d : Kd α) (ok : α → Prop) : Prop where
  out : ∀ {H : Type} (enc : TypeId × Value → H) (w : World) (base : Nat) (spare : Nat → Bool) (held : Bool) (fuel : Nat) (cs : List Value) (x : DataW H × List MemPlace),
    DataW.trod enc P w base spare held fuel T cs = some x → ∃ a, d.K w a cs ∧ ok a
theorem Opens.imp {P : Program} {T : TypeId} {α : Type} {d : Kd α} {ok ok' : α → Prop} (h : Opens P T d ok) (hk : ∀ a, ok a → ok' a) : Opens P T d ok' :=
  ⟨fun enc w base spare held fuel cs x hx => let ⟨a, h1, h2⟩ := h.out enc w base spare held fuel cs x hx; ⟨a, h1, hk a h2⟩⟩
theorem opens_int {P : Program} {T : TypeId} {k : IntKind} (ht : P.underlying T = some (.int k)) : Opens P T (Kd.int k) (fun n => (Lit.int k n).wf = true) := by
  refine ⟨fun {H} enc w base spare held fuel cs x h => ?_⟩
  obtain ⟨m, rfl, _, hw⟩ := DataW.trod_int ht h
  exact ⟨m, rfl, hw⟩
theorem Opens.trod {P : Program} {T : TypeId} {α : Type} {d : Kd α} {ok : α → Prop} (h : Opens P T d ok) {H : Type} {enc : TypeId × Value → H} {w : World} {base : Nat} {spare : Nat → Bool} {held : Bool} {v : Value} {D : DataW H} {p : List MemPlace}
    (hv : DataW.Trod enc P w base spare held T v D p) : ∃ a, d.K w a v.cells.toList ∧ ok a := by
  obtain ⟨n, hn⟩ := hv
  exact h.out enc w base spare held n _ _ hn
end Go.Proofs.Ytkeadpichlgagaa.Op
namespace Go.Proofs.Ytkeadpichlgagaa.Op
open Go.Proofs.YtkeadpichlgagaaW.PrintWords
open Go.ChangeShapes Go.WideShapes Go.ChangeAt Go.RowKit Go.Deep
set_option linter.unusedVariables false
structure OpensW (P : Program) (T : TypeId) {α : Type} (d : Kd α) (ok : α → Prop) : Prop where
  out : ∀ {H : Type} (enc : TypeId × Value → H) (w : World) (base : Nat) (spare : Nat → Bool) (held : Bool) (fuel : Nat) (cs : List Value) (x : DataW H × List MemPlace),
    DataW.trod enc P w base spare held fuel T cs = some x → (∀ n ∈ x.1.weights P T, n ≤ reachBytes) → ∃ a, d.K w a cs ∧ ok a
theorem OpensW.of {P : Program} {T : TypeId} {α : Type} {d : Kd α} {ok : α → Prop} (h : Opens P T d ok) : OpensW P T d ok :=
  ⟨fun enc w base spare held fuel cs x hx _ => h.out enc w base spare held fuel cs x hx⟩
theorem OpensW.imp {P : Program} {T : TypeId} {α : Type} {d : Kd α} {ok ok' : α → Prop} (h : OpensW P T d ok) (hk : ∀ a, ok a → ok' a) : OpensW P T d ok' :=
  ⟨fun enc w base spare held fuel cs x hx hw => let ⟨a, h1, h2⟩ := h.out enc w base spare held fuel cs x hx hw; ⟨a, h1, hk a h2⟩⟩
theorem weightsAll_mem {H : Type} {P : Program} {e : TypeId} : ∀ {l : List (DataW H)} {d : DataW H}, d ∈ l → ∀ n ∈ d.weights P e, n ∈ DataW.weightsAll P e l
  | x :: l, d, h, n, hn => by
    simp only [DataW.weightsAll, List.mem_append]
    rcases List.mem_cons.1 h with rfl | h
    · exact .inl hn
    · exact .inr (weightsAll_mem h n hn)
theorem opens_slice_w {P : Program} {T e : TypeId} {α : Type} {d : Kd α} {ok : α → Prop} (ht : P.underlying T = some (.slice e)) (hz : P.cellsOf e = d.sz) (h : OpensW P e d ok) :
    OpensW P T (Kd.slice e d) (fun xs => xs.length ≤ maxLen ∧ xs.length * P.bytesOf e ≤ reachBytes ∧ ∀ x ∈ xs, ok x) := by
  refine ⟨fun {H} enc w base spare held fuel cs x hx hw => ?_⟩
  rcases open_slice ht hx with ⟨rfl, _⟩ | ⟨a, len, cap, m, n, D, Pl, rfl, hb, hl, hm, hmm, rfl, hel⟩
  · exact ⟨[], ⟨none, 0, rfl, by simp, Kd.C_nil _ _⟩, by simp, by simp, by simp⟩
  · have hlm : len ≤ m := by rw [hmm]; split <;> omega
    have hall : ∀ i : Fin len, ∃ y, ok y ∧ ∃ c, d.K w y c ∧ ∀ q u, c[q]? = some u → w.cell? (a.add (i.1 * d.sz + q)) = some u := by
      intro i
      obtain ⟨cs', h1, h2⟩ := hel i.1 (by have := i.2; omega)
      obtain ⟨y, hy, hoky⟩ := h.out enc w base spare held n cs' _ h2 (fun n hn => hw n (by
        simp only [DataW.weights, ht, List.mem_cons, List.mem_append]
        exact .inr (.inl (weightsAll_mem (List.mem_map_of_mem (List.mem_range.2 i.2)) n hn))))
      refine ⟨y, hoky, cs', hy, fun q u hu => ?_⟩
      obtain ⟨_, hlen, hc⟩ := World.cells?_some h1
      have hq : q < P.cellsOf e := by rw [← hlen]; exact (List.getElem?_eq_some_iff.1 hu).1
      have := hc q hq
      rw [hu] at this
      have e1 : (a.add (i.1 * P.cellsOf e)).add q = a.add (i.1 * d.sz + q) := by rw [hz]; exact Addr.add_add a _ _
      rw [← e1]; exact this
    have hwl := hw ((((List.range len).map D).length + ((List.range (m - len)).map fun j => D (len + j)).length) * P.bytesOf e) (by simp [DataW.weights, ht])
    simp only [List.length_map, List.length_range] at hwl
    refine ⟨List.ofFn fun i => Classical.choose (hall i), ⟨some a, cap, by simp, by simpa using hl, by simp, by simp; unfold maxLen at hm; omega, fun _ => ⟨a, rfl, fun j p hp => ?_⟩⟩, by simp; omega, ?_, fun y hy => ?_⟩
    · have hj : j < len := by simpa using (List.getElem?_eq_some_iff.1 hp).1
      have hp' : p = Classical.choose (hall ⟨j, hj⟩) := by
        rw [List.getElem?_ofFn, dif_pos hj] at hp
        exact (Option.some.inj hp).symm
      obtain ⟨_, c, hK, hc⟩ := Classical.choose_spec (hall ⟨j, hj⟩)
      exact ⟨c, d.K_len hK, by rw [hp']; exact hK, hc⟩
    · rw [List.length_ofFn]
      exact Nat.le_trans (Nat.mul_le_mul_right _ (Nat.le_add_right _ _)) hwl
    · rw [List.mem_ofFn] at hy
      obtain ⟨i, rfl⟩ := hy
      exact (Classical.choose_spec (hall i)).1
theorem OpensW.trod {P : Program} {T : TypeId} {α : Type} {d : Kd α} {ok : α → Prop} (h : OpensW P T d ok) {H : Type} {enc : TypeId × Value → H} {w : World} {base : Nat} {spare : Nat → Bool} {held : Bool} {v : Value} {D : DataW H} {p : List MemPlace}
    (hv : DataW.Trod enc P w base spare held T v D p) {ts : List TypeId} {ds : List (DataW H)} (hs : (DataW.weightsEach P ts ds).all (· ≤ reachBytes) = true) {j : Nat} (ht : ts[j]? = some T) (hd : ds[j]? = some D) : ∃ a, d.K w a v.cells.toList ∧ ok a := by
  obtain ⟨n, hn⟩ := hv
  refine h.out enc w base spare held n _ _ hn (fun n hn => ?_)
  have := List.all_eq_true.1 hs n (DataW.weights_mem_each ht hd n hn)
  simpa using this
end Go.Proofs.Ytkeadpichlgagaa.Op
namespace Go.Proofs.Ytkeadpichlgagaa.Op
open Go.Proofs.YtkeadpichlgagaaW.PrintWords
open Go.ChangeShapes Go.WideShapes Go.ChangeAt Go.RowKit Go.Deep
set_option linter.unusedVariables false
structure FieldsW (P : Program) (fs : List Field) (off : Nat) {α : Type} (d : Kd α) (ok : α → Prop) : Prop where
  out : ∀ {H : Type} (enc : TypeId × Value → H) (w : World) (base : Nat) (spare : Nat → Bool) (held : Bool) (fuel : Nat) (cs : List Value),
    off + d.sz ≤ cs.length → (∀ f ∈ fs, ∃ y, DataW.trod enc P w base spare held fuel f.type ((cs.drop f.offset).take (P.cellsOf f.type)) = some y ∧ ∀ n ∈ y.1.weights P f.type, n ≤ reachBytes) → ∃ a, d.K w a ((cs.drop off).take d.sz) ∧ ok a
theorem fieldsW_one {P : Program} {f : Field} {off : Nat} {α : Type} {d : Kd α} {ok : α → Prop} (h : OpensW P f.type d ok) (ho : f.offset = off) (hz : P.cellsOf f.type = d.sz) : FieldsW P [f] off d ok := by
  refine ⟨fun {H} enc w base spare held fuel cs hl hf => ?_⟩
  obtain ⟨y, hy, hw⟩ := hf f (by simp)
  rw [ho, hz] at hy
  exact h.out enc w base spare held fuel _ _ hy hw
theorem fieldsW_cons {P : Program} {f : Field} {fs : List Field} {off : Nat} {α β : Type} {d : Kd α} {d' : Kd β} {ok : α → Prop} {ok' : β → Prop} (h : OpensW P f.type d ok) (ho : f.offset = off) (hz : P.cellsOf f.type = d.sz)
    (h' : FieldsW P fs (off + d.sz) d' ok') : FieldsW P (f :: fs) off (Kd.pair d d') (fun x => ok x.1 ∧ ok' x.2) := by
  refine ⟨fun {H} enc w base spare held fuel cs hl hf => ?_⟩
  have hl' : off + d.sz + d'.sz ≤ cs.length := by have : (Kd.pair d d').sz = d.sz + d'.sz := rfl; omega
  obtain ⟨y, hy, hw⟩ := hf f (by simp)
  rw [ho, hz] at hy
  obtain ⟨a, h1, h2⟩ := h.out enc w base spare held fuel _ _ hy hw
  obtain ⟨b, h3, h4⟩ := h'.out enc w base spare held fuel cs hl' (fun g hg => hf g (by simp [hg]))
  refine ⟨(a, b), ⟨_, _, ?_, h1, h3⟩, h2, h4⟩
  show (cs.drop off).take (d.sz + d'.sz) = _
  rw [List.take_add, List.drop_drop]
theorem opens_struct_w {P : Program} {T : TypeId} {fs : Array Field} {α β : Type} {d : Kd α} {ok : α → Prop} (g : β → α) (gi : α → β) (hg : ∀ a, g (gi a) = a) (ht : P.underlying T = some (.struct fs)) (hz : P.cellsOf T = d.sz) (h : FieldsW P fs.toList 0 d ok) :
    OpensW P T (Kd.iso d g) (fun x => ok (g x)) := by
  refine ⟨fun {H} enc w base spare held fuel cs x hx hw => ?_⟩
  obtain ⟨xs, n, rfl, rfl, hl, hlen, hf⟩ := DataW.trod_struct ht hx
  obtain ⟨a, h1, h2⟩ := h.out enc w base spare held n cs (by omega) (fun f hf' => by
    obtain ⟨i, hi, rfl⟩ := List.getElem_of_mem hf'
    have hi' : i < fs.size := by simpa using hi
    refine ⟨xs[i]'(by omega), ?_, fun n hn => hw n ?_⟩
    · rw [hf i _ (by simp), List.getElem?_eq_getElem]
    · simp only [DataW.weights, ht]
      exact DataW.weights_mem_each (j := i) (by simp [hi']) (by rw [List.getElem?_map, List.getElem?_eq_getElem (by omega)]; rfl) n hn)
  rw [List.drop_zero, List.take_of_length_le (by omega)] at h1
  exact ⟨gi a, by show d.K w (g (gi a)) cs; rw [hg]; exact h1, by show ok (g (gi a)); rw [hg]; exact h2⟩
end Go.Proofs.Ytkeadpichlgagaa.Op
