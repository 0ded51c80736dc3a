/- Kept of the text Pm6: what is reached (wip/tools/prune.py). -/
import Derived.Test.YtkeadpichlgagaaVWWords
import Derived.ProofKit
import Derived.SizedLaws
import Derived.Deep.Slices
import Derived.Test.YtkeadpichlgagaaRows
namespace Go.Proofs.Ytkeadpichlgagaa.Op
open Go.Proofs.YtkeadpichlgagaaW.PrintWords
open Go.ChangeShapes Go.WideShapes Go.ChangeAt Go.RowKit Go.Deep
set_option linter.unusedVariables false
structure Opens (P : Program) (T : TypeId) {α : Type} (d : Kd α) (ok : α → Prop) : Prop where
  out : ∀ {H : Type} (enc : TypeId × Value → H) (w : World) (base : Nat) (spare : Nat → Bool) (held : Bool) (fuel : Nat) (cs : List Value) (x : DataW H × List MemPlace),
    DataW.trod enc P w base spare held fuel T cs = some x → ∃ a, d.K w a cs ∧ ok a
theorem Opens.imp {P : Program} {T : TypeId} {α : Type} {d : Kd α} {ok ok' : α → Prop} (h : Opens P T d ok) (hk : ∀ a, ok a → ok' a) : Opens P T d ok' :=
  ⟨fun enc w base spare held fuel cs x hx => let ⟨a, h1, h2⟩ := h.out enc w base spare held fuel cs x hx; ⟨a, h1, hk a h2⟩⟩
theorem opens_int {P : Program} {T : TypeId} {k : IntKind} (ht : P.underlying T = some (.int k)) : Opens P T (Kd.int k) (fun n => (Lit.int k n).wf = true) := by
  refine ⟨fun {H} enc w base spare held fuel cs x h => ?_⟩
  obtain ⟨m, rfl, _, hw⟩ := DataW.trod_int ht h
  exact ⟨m, rfl, hw⟩
theorem Opens.trod {P : Program} {T : TypeId} {α : Type} {d : Kd α} {ok : α → Prop} (h : Opens P T d ok) {H : Type} {enc : TypeId × Value → H} {w : World} {base : Nat} {spare : Nat → Bool} {held : Bool} {v : Value} {D : DataW H} {p : List MemPlace}
    (hv : DataW.Trod enc P w base spare held T v D p) : ∃ a, d.K w a v.cells.toList ∧ ok a := by
  obtain ⟨n, hn⟩ := hv
  exact h.out enc w base spare held n _ _ hn
end Go.Proofs.Ytkeadpichlgagaa.Op
namespace Go.Proofs.Ytkeadpichlgagaa.Op
open Go.Proofs.YtkeadpichlgagaaW.PrintWords
open Go.ChangeShapes Go.WideShapes Go.ChangeAt Go.RowKit Go.Deep
set_option linter.unusedVariables false
end Go.Proofs.Ytkeadpichlgagaa.Op
namespace Go.Proofs.Ytkeadpichlgagaa.Op
open Go.Proofs.YtkeadpichlgagaaW.PrintWords
open Go.ChangeShapes Go.WideShapes Go.ChangeAt Go.RowKit Go.Deep
set_option linter.unusedVariables false
structure OpensB (P : Program) (T : TypeId) {α : Type} (d : Kd α) (sz : α → Nat) : Prop where
  out : ∀ {H : Type} (enc : TypeId × Value → H) (w : World) (base : Nat) (spare : Nat → Bool) (held : Bool) (fuel : Nat) (cs : List Value) (x : DataW H × List MemPlace),
    DataW.trod enc P w base spare held fuel T cs = some x → ∃ a, d.K w a cs ∧ sz a ≤ Rows.uptoBulk x.1
theorem bulk_one {H : Type} (d : DataW H) : 1 ≤ Rows.uptoBulk d := by
  cases d with
  | lit l => cases l <;> simp [Rows.uptoBulk]
  | nil => simp [Rows.uptoBulk]
  | ptr d => simp [Rows.uptoBulk]
  | slice elems spare => simp [Rows.uptoBulk]
  | agg parts => simp [Rows.uptoBulk]
  | iface t d => simp [Rows.uptoBulk]
  | map entries => simp [Rows.uptoBulk]
  | held h => simp [Rows.uptoBulk]
theorem OpensB.of {P : Program} {T : TypeId} {α : Type} {d : Kd α} {ok : α → Prop} (h : Opens P T d ok) : OpensB P T d (fun _ => 1) :=
  ⟨fun enc w base spare held fuel cs x hx => let ⟨a, h1, _⟩ := h.out enc w base spare held fuel cs x hx; ⟨a, h1, bulk_one _⟩⟩
theorem bulk_ofFn {H : Type} {α : Type} (sz : α → Nat) : ∀ (len : Nat) (f : Fin len → α) (D : Nat → DataW H), (∀ i : Fin len, sz (f i) ≤ Rows.uptoBulk (D i.1)) → ((List.ofFn f).map sz).sum ≤ Rows.uptoBulkAll ((List.range len).map D)
  | 0, f, D, _ => by simp
  | n + 1, f, D, h => by
    rw [List.ofFn_succ, List.map_cons, List.sum_cons, List.range_succ_eq_map, List.map_cons, List.map_map]
    have h0 := h 0
    have h1 := bulk_ofFn sz n (fun i => f i.succ) (fun j => D (j + 1)) (fun i => h i.succ)
    show _ ≤ Rows.uptoBulk (D 0) + Rows.uptoBulkAll ((List.range n).map (D ∘ Nat.succ))
    exact Nat.add_le_add h0 h1
theorem opens_slice_b {P : Program} {T e : TypeId} {α : Type} {d : Kd α} {sz : α → Nat} (ht : P.underlying T = some (.slice e)) (hz : P.cellsOf e = d.sz) (h : OpensB P e d sz) :
    OpensB P T (Kd.slice e d) (fun xs => (xs.map sz).sum + 1) := by
  refine ⟨fun {H} enc w base spare held fuel cs x hx => ?_⟩
  rcases open_slice ht hx with ⟨rfl, _⟩ | ⟨a, len, cap, m, n, D, Pl, rfl, hb, hl, hm, hmm, rfl, hel⟩
  · exact ⟨[], ⟨none, 0, rfl, by simp, Kd.C_nil _ _⟩, bulk_one _⟩
  · have hlm : len ≤ m := by rw [hmm]; split <;> omega
    have hall : ∀ i : Fin len, ∃ y, sz y ≤ Rows.uptoBulk (D i.1) ∧ ∃ c, d.K w y c ∧ ∀ q u, c[q]? = some u → w.cell? (a.add (i.1 * d.sz + q)) = some u := by
      intro i
      obtain ⟨cs', h1, h2⟩ := hel i.1 (by have := i.2; omega)
      obtain ⟨y, hy, hoky⟩ := h.out enc w base spare held n cs' _ h2
      refine ⟨y, hoky, cs', hy, fun q u hu => ?_⟩
      obtain ⟨_, hlen, hc⟩ := World.cells?_some h1
      have hq : q < P.cellsOf e := by rw [← hlen]; exact (List.getElem?_eq_some_iff.1 hu).1
      have := hc q hq
      rw [hu] at this
      have e1 : (a.add (i.1 * P.cellsOf e)).add q = a.add (i.1 * d.sz + q) := by rw [hz]; exact Addr.add_add a _ _
      rw [← e1]; exact this
    refine ⟨List.ofFn fun i => Classical.choose (hall i), ⟨some a, cap, by simp, by simpa using hl, by simp, by simp; unfold maxLen at hm; omega, fun _ => ⟨a, rfl, fun j p hp => ?_⟩⟩, ?_⟩
    · have hj : j < len := by simpa using (List.getElem?_eq_some_iff.1 hp).1
      have hp' : p = Classical.choose (hall ⟨j, hj⟩) := by
        rw [List.getElem?_ofFn, dif_pos hj] at hp
        exact (Option.some.inj hp).symm
      obtain ⟨_, c, hK, hc⟩ := Classical.choose_spec (hall ⟨j, hj⟩)
      exact ⟨c, d.K_len hK, by rw [hp']; exact hK, hc⟩
    · have := bulk_ofFn sz len (fun i => Classical.choose (hall i)) D (fun i => (Classical.choose_spec (hall i)).1)
      simp only [Rows.uptoBulk]
      omega
structure FieldsB (P : Program) (fs : List Field) (off : Nat) {α : Type} (d : Kd α) (sz : α → Nat) : Prop where
  out : ∀ {H : Type} (enc : TypeId × Value → H) (w : World) (base : Nat) (spare : Nat → Bool) (held : Bool) (fuel : Nat) (cs : List Value) (ys : List (DataW H × List MemPlace)),
    off + d.sz ≤ cs.length → ys.length = fs.length → (∀ (i : Nat) f y, fs[i]? = some f → ys[i]? = some y → DataW.trod enc P w base spare held fuel f.type ((cs.drop f.offset).take (P.cellsOf f.type)) = some y) →
      ∃ a, d.K w a ((cs.drop off).take d.sz) ∧ sz a ≤ Rows.uptoBulkAll (ys.map (·.1))
theorem fieldsB_one {P : Program} {f : Field} {off : Nat} {α : Type} {d : Kd α} {sz : α → Nat} (h : OpensB P f.type d sz) (ho : f.offset = off) (hz : P.cellsOf f.type = d.sz) : FieldsB P [f] off d sz := by
  refine ⟨fun {H} enc w base spare held fuel cs ys hl hys hf => ?_⟩
  obtain ⟨y, rfl⟩ : ∃ y, ys = [y] := by
    match ys, hys with
    | [y], _ => exact ⟨y, rfl⟩
  have hy := hf 0 f y rfl rfl
  rw [ho, hz] at hy
  obtain ⟨a, h1, h2⟩ := h.out enc w base spare held fuel _ _ hy
  exact ⟨a, h1, by simp [Rows.uptoBulkAll]; omega⟩
theorem fieldsB_cons {P : Program} {f : Field} {fs : List Field} {off : Nat} {α β : Type} {d : Kd α} {d' : Kd β} {sz : α → Nat} {sz' : β → Nat} (h : OpensB P f.type d sz) (ho : f.offset = off) (hz : P.cellsOf f.type = d.sz)
    (h' : FieldsB P fs (off + d.sz) d' sz') : FieldsB P (f :: fs) off (Kd.pair d d') (fun x => sz x.1 + sz' x.2) := by
  refine ⟨fun {H} enc w base spare held fuel cs ys hl hys hf => ?_⟩
  have hl' : off + d.sz + d'.sz ≤ cs.length := by have : (Kd.pair d d').sz = d.sz + d'.sz := rfl; omega
  obtain ⟨y, ys', rfl⟩ : ∃ y ys', ys = y :: ys' := by
    match ys, hys with
    | y :: ys', _ => exact ⟨y, ys', rfl⟩
  have hy := hf 0 f y rfl rfl
  rw [ho, hz] at hy
  obtain ⟨a, h1, h2⟩ := h.out enc w base spare held fuel _ _ hy
  obtain ⟨b, h3, h4⟩ := h'.out enc w base spare held fuel cs ys' hl' (by simpa using hys) (fun i g z hg hz => hf (i + 1) g z hg hz)
  refine ⟨(a, b), ⟨_, _, ?_, h1, h3⟩, ?_⟩
  · show (cs.drop off).take (d.sz + d'.sz) = _
    rw [List.take_add, List.drop_drop]
  · simp only [List.map_cons, Rows.uptoBulkAll]
    exact Nat.add_le_add h2 h4
theorem opens_struct_b {P : Program} {T : TypeId} {fs : Array Field} {α β : Type} {d : Kd α} {sz : α → Nat} (g : β → α) (gi : α → β) (hg : ∀ a, g (gi a) = a) (ht : P.underlying T = some (.struct fs)) (hz : P.cellsOf T = d.sz) (h : FieldsB P fs.toList 0 d sz) :
    OpensB P T (Kd.iso d g) (fun x => sz (g x) + 1) := by
  refine ⟨fun {H} enc w base spare held fuel cs x hx => ?_⟩
  obtain ⟨xs, n, rfl, rfl, hl, hlen, hf⟩ := DataW.trod_struct ht hx
  obtain ⟨a, h1, h2⟩ := h.out enc w base spare held n cs xs (by omega) (by simpa using hlen) (fun i f y hfi hyi => by rw [hf i f (by simpa using hfi)]; exact hyi)
  rw [List.drop_zero, List.take_of_length_le (by omega)] at h1
  refine ⟨gi a, by show d.K w (g (gi a)) cs; rw [hg]; exact h1, ?_⟩
  show sz (g (gi a)) + 1 ≤ Rows.uptoBulk (.agg (xs.map (·.1)))
  rw [hg]
  simp only [Rows.uptoBulk]
  omega
theorem OpensB.trod {P : Program} {T : TypeId} {α : Type} {d : Kd α} {sz : α → Nat} (h : OpensB P T d sz) {H : Type} {enc : TypeId × Value → H} {w : World} {base : Nat} {spare : Nat → Bool} {held : Bool} {v : Value} {D : DataW H} {p : List MemPlace}
    (hv : DataW.Trod enc P w base spare held T v D p) : ∃ a, d.K w a v.cells.toList ∧ sz a ≤ Rows.uptoBulk D := by
  obtain ⟨n, hn⟩ := hv
  exact h.out enc w base spare held n _ _ hn
end Go.Proofs.Ytkeadpichlgagaa.Op
