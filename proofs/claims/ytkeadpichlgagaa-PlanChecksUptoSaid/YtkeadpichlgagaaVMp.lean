/- Kept of the text Mp: what is reached (wip/tools/prune.py). -/
import Derived.Test.YtkeadpichlgagaaVWWords
import Derived.Maps.OwnSet
import Derived.WalkKit
namespace Go.Proofs.Ytkeadpichlgagaa.Mp
open Go.RowKit Go.Maps Go.Proofs.YtkeadpichlgagaaW.PrintWords
set_option linter.unusedVariables false
set_option linter.unusedSimpArgs false
structure Fr1 (w w' : World) (b : Nat) : Prop where
  os : w'.os = w.os
  tape : w'.tape = w.tape
  output : w'.output = w.output
  size : w.heap.size ≤ w'.heap.size
  block : ∀ k, k < w.heap.size → k ≠ b → w'.heap[k]? = w.heap[k]?
theorem Fr1.refl (w : World) (b : Nat) : Fr1 w w b := ⟨rfl, rfl, rfl, Nat.le_refl _, fun _ _ _ => rfl⟩
theorem Fr1.below {w w1 w2 : World} {b : Nat} (h : Fr1 w w1 b) (hb : Below w1.heap.size w1 w2) : Fr1 w w2 b :=
  ⟨hb.os.trans h.os, hb.tape.trans h.tape, hb.output.trans h.output, Nat.le_trans h.size hb.size, fun k hk hn => (hb.block k (by have := h.size; omega)).trans (h.block k hk hn)⟩
theorem Fr1.trans {w w1 w2 : World} {b : Nat} (h : Fr1 w w1 b) (hb : Fr1 w1 w2 b) : Fr1 w w2 b :=
  ⟨hb.os.trans h.os, hb.tape.trans h.tape, hb.output.trans h.output, Nat.le_trans h.size hb.size, fun k hk hn => (hb.block k (by have := h.size; omega) hn).trans (h.block k hk hn)⟩
theorem Fr1.of_below {w w1 : World} (b : Nat) (hb : Below w.heap.size w w1) : Fr1 w w1 b := ⟨hb.os, hb.tape, hb.output, hb.size, fun k hk _ => hb.block k hk⟩
theorem Fr1.blk {w w1 : World} {b g : Nat} {o : Obj} (h : Fr1 w w1 b) (hg : w.heap[g]? = some o) (hn : g ≠ b) : w1.heap[g]? = some o := (h.block g (blk_lt hg) hn).trans hg
theorem cell_lt {w : World} {p : Addr} {v : Value} (hc : w.cell? p = some v) : p.block < w.heap.size := by
  rcases Nat.lt_or_ge p.block w.heap.size with h | h
  · exact h
  · simp [World.cell?, Array.getElem?_eq_none h] at hc
theorem Fr1.cell {w w1 : World} {b : Nat} (h : Fr1 w w1 b) {p : Addr} {v : Value} (hn : p.block ≠ b) (hc : w.cell? p = some v) : w1.cell? p = some v := by
  rw [World.cell?_of_block (w := w) (h.block p.block (cell_lt hc) hn)]; exact hc
theorem Fr1.set {w w1 : World} {b : Nat} (h : Fr1 w w1 b) (j : Nat) (u : Value) : Fr1 w (w1.setCell ⟨b, j, none⟩ u) b :=
  ⟨h.os, h.tape, h.output, by have := h.size; simpa [World.setCell] using this, fun k hk hn => (Below.heap_setCell w1 ⟨b, j, none⟩ u k hn).trans (h.block k hk hn)⟩
theorem Fr1.drew {w w1 : World} {b : Nat} (h : Fr1 w w1 b) : Fr1 w w1.drew b := ⟨h.os, h.tape, h.output, h.size, h.block⟩
theorem Fr1.to_below {w w1 : World} {b B : Nat} (h : Fr1 w w1 b) (hB : B ≤ b) (hw : B ≤ w.heap.size) : Below B w w1 := ⟨h.os, h.tape, h.output, h.size, fun k hk => h.block k (by omega) (by omega)⟩
section
variable {β γ : Type}
end
structure MapIs (w : World) (b : Nat) (l : List (Int × Value)) : Prop where
  out : ∃ es clock, w.heap[b]? = some (.map es clock) ∧ es.toList.map (fun e => (e.key, e.val)) = l.map (fun p => (Value.int .i64 p.1, p.2)) ∧ (∀ e ∈ es.toList, e.born < clock) ∧ (es.toList.map (·.born)).Nodup
theorem MapIs.lt {w : World} {b : Nat} {l : List (Int × Value)} (h : MapIs w b l) : b < w.heap.size := by
  obtain ⟨_, _, hb, _⟩ := h.out; exact blk_lt hb
theorem MapIs.move {w w1 : World} {b : Nat} {l : List (Int × Value)} (h : MapIs w b l) (hm : w1.heap[b]? = w.heap[b]?) : MapIs w1 b l := by
  obtain ⟨es, clock, hb, r⟩ := h.out; exact ⟨⟨es, clock, hm.trans hb, r⟩⟩
theorem MapIs.below {w w1 : World} {b : Nat} {l : List (Int × Value)} (h : MapIs w b l) (hb : Below w.heap.size w w1) : MapIs w1 b l := h.move (hb.block b h.lt)
theorem MapIs.fr {w w1 : World} {b g : Nat} {l : List (Int × Value)} (h : MapIs w b l) (hb : Fr1 w w1 g) (hn : b ≠ g) : MapIs w1 b l := h.move (hb.block b h.lt hn)
theorem MapIs.drewN {w : World} {b : Nat} {l : List (Int × Value)} (h : MapIs w b l) (n : Nat) : MapIs (w.drewN n) b l := h.move rfl
theorem MapIs.drew {w : World} {b : Nat} {l : List (Int × Value)} (h : MapIs w b l) : MapIs w.drew b l := h.move rfl
theorem MapIs.alloc {w : World} {b : Nat} {l : List (Int × Value)} (h : MapIs w b l) (o : Obj) : MapIs (w.alloc o) b l := h.move (Below.heap_alloc w o b h.lt)
section
variable {P : Program} {T K E : TypeId} {w : World} {b : Nat} {l : List (Int × Value)}
end
end Go.Proofs.Ytkeadpichlgagaa.Mp
