/- Kept of the text Mp: what is reached (wip/tools/prune.py). -/
import Derived.Test.YtnkpleggmiamdaaVWWords
import Derived.Maps.OwnSet
import Derived.WalkKit
namespace Go.Proofs.Ytnkpleggmiamdaa.Mp
open Go.RowKit Go.Maps Go.Proofs.YtnkpleggmiamdaaW.PrintWords
set_option linter.unusedVariables false
set_option linter.unusedSimpArgs false
structure Fr1 (w w' : World) (b : Nat) : Prop where
  os : w'.os = w.os
  tape : w'.tape = w.tape
  output : w'.output = w.output
  size : w.heap.size ≤ w'.heap.size
  block : ∀ k, k < w.heap.size → k ≠ b → w'.heap[k]? = w.heap[k]?
theorem Fr1.refl (w : World) (b : Nat) : Fr1 w w b := ⟨rfl, rfl, rfl, Nat.le_refl _, fun _ _ _ => rfl⟩
theorem Fr1.below {w w1 w2 : World} {b : Nat} (h : Fr1 w w1 b) (hb : Below w1.heap.size w1 w2) : Fr1 w w2 b :=
  ⟨hb.os.trans h.os, hb.tape.trans h.tape, hb.output.trans h.output, Nat.le_trans h.size hb.size, fun k hk hn => (hb.block k (by have := h.size; omega)).trans (h.block k hk hn)⟩
theorem Fr1.trans {w w1 w2 : World} {b : Nat} (h : Fr1 w w1 b) (hb : Fr1 w1 w2 b) : Fr1 w w2 b :=
  ⟨hb.os.trans h.os, hb.tape.trans h.tape, hb.output.trans h.output, Nat.le_trans h.size hb.size, fun k hk hn => (hb.block k (by have := h.size; omega) hn).trans (h.block k hk hn)⟩
theorem Fr1.of_below {w w1 : World} (b : Nat) (hb : Below w.heap.size w w1) : Fr1 w w1 b := ⟨hb.os, hb.tape, hb.output, hb.size, fun k hk _ => hb.block k hk⟩
theorem Fr1.blk {w w1 : World} {b g : Nat} {o : Obj} (h : Fr1 w w1 b) (hg : w.heap[g]? = some o) (hn : g ≠ b) : w1.heap[g]? = some o := (h.block g (blk_lt hg) hn).trans hg
theorem cell_lt {w : World} {p : Addr} {v : Value} (hc : w.cell? p = some v) : p.block < w.heap.size := by
  rcases Nat.lt_or_ge p.block w.heap.size with h | h
  · exact h
  · simp [World.cell?, Array.getElem?_eq_none h] at hc
theorem Fr1.cell {w w1 : World} {b : Nat} (h : Fr1 w w1 b) {p : Addr} {v : Value} (hn : p.block ≠ b) (hc : w.cell? p = some v) : w1.cell? p = some v := by
  rw [World.cell?_of_block (w := w) (h.block p.block (cell_lt hc) hn)]; exact hc
theorem Fr1.set {w w1 : World} {b : Nat} (h : Fr1 w w1 b) (j : Nat) (u : Value) : Fr1 w (w1.setCell ⟨b, j, none⟩ u) b :=
  ⟨h.os, h.tape, h.output, by have := h.size; simpa [World.setCell] using this, fun k hk hn => (Below.heap_setCell w1 ⟨b, j, none⟩ u k hn).trans (h.block k hk hn)⟩
theorem Fr1.drew {w w1 : World} {b : Nat} (h : Fr1 w w1 b) : Fr1 w w1.drew b := ⟨h.os, h.tape, h.output, h.size, h.block⟩
theorem Fr1.to_below {w w1 : World} {b B : Nat} (h : Fr1 w w1 b) (hB : B ≤ b) (hw : B ≤ w.heap.size) : Below B w w1 := ⟨h.os, h.tape, h.output, h.size, fun k hk => h.block k (by omega) (by omega)⟩
theorem Fr1.of_new {w w1 w2 : World} {b : Nat} (h : Below w.heap.size w w1) (hf : Fr1 w1 w2 b) : Fr1 w w2 b :=
  ⟨hf.os.trans h.os, hf.tape.trans h.tape, hf.output.trans h.output, Nat.le_trans h.size hf.size, fun k hk hn => (hf.block k (by have := h.size; omega) hn).trans (h.block k hk)⟩
section
variable {β γ : Type}
def alook (k : Int) : List (Int × β) → Option β
  | [] => none
  | p :: l => if p.1 = k then some p.2 else alook k l
def aput (k : Int) (v : β) : List (Int × β) → List (Int × β)
  | [] => [(k, v)]
  | p :: l => if p.1 = k then (k, v) :: l else p :: aput k v l
def adel (k : Int) : List (Int × β) → List (Int × β)
  | [] => []
  | p :: l => if p.1 = k then l else p :: adel k l
def amap (f : β → γ) (l : List (Int × β)) : List (Int × γ) := l.map fun p => (p.1, f p.2)
theorem alook_map (f : β → γ) (k : Int) : ∀ l : List (Int × β), alook k (amap f l) = (alook k l).map f
  | [] => rfl
  | p :: l => by
    simp only [amap, List.map_cons, alook]
    split
    · rfl
    · exact alook_map f k l
theorem aput_map (f : β → γ) (k : Int) (v : β) : ∀ l : List (Int × β), aput k (f v) (amap f l) = amap f (aput k v l)
  | [] => rfl
  | p :: l => by
    simp only [amap, List.map_cons, aput]
    split
    · rfl
    · exact congrArg _ (aput_map f k v l)
theorem alook_none_of {k : Int} : ∀ {l : List (Int × β)}, k ∉ l.map (·.1) → alook k l = none
  | [], _ => rfl
  | p :: l, h => by
    simp only [List.map_cons, List.mem_cons, not_or] at h
    simp only [alook]; rw [if_neg (Ne.symm h.1)]; exact alook_none_of h.2
theorem mem_of_alook {k : Int} {v : β} : ∀ {l : List (Int × β)}, alook k l = some v → (k, v) ∈ l
  | p :: l, h => by
    simp only [alook] at h
    split at h
    · rename_i e; obtain rfl := Option.some.inj h; subst e; exact List.mem_cons_self
    · exact List.mem_cons_of_mem _ (mem_of_alook h)
end
structure MapIs (w : World) (b : Nat) (l : List (Int × Value)) : Prop where
  out : ∃ es clock, w.heap[b]? = some (.map es clock) ∧ es.toList.map (fun e => (e.key, e.val)) = l.map (fun p => (Value.int .i64 p.1, p.2)) ∧ (∀ e ∈ es.toList, e.born < clock) ∧ (es.toList.map (·.born)).Nodup
theorem MapIs.lt {w : World} {b : Nat} {l : List (Int × Value)} (h : MapIs w b l) : b < w.heap.size := by
  obtain ⟨_, _, hb, _⟩ := h.out; exact blk_lt hb
theorem MapIs.move {w w1 : World} {b : Nat} {l : List (Int × Value)} (h : MapIs w b l) (hm : w1.heap[b]? = w.heap[b]?) : MapIs w1 b l := by
  obtain ⟨es, clock, hb, r⟩ := h.out; exact ⟨⟨es, clock, hm.trans hb, r⟩⟩
theorem MapIs.below {w w1 : World} {b : Nat} {l : List (Int × Value)} (h : MapIs w b l) (hb : Below w.heap.size w w1) : MapIs w1 b l := h.move (hb.block b h.lt)
theorem MapIs.fr {w w1 : World} {b g : Nat} {l : List (Int × Value)} (h : MapIs w b l) (hb : Fr1 w w1 g) (hn : b ≠ g) : MapIs w1 b l := h.move (hb.block b h.lt hn)
theorem MapIs.drewN {w : World} {b : Nat} {l : List (Int × Value)} (h : MapIs w b l) (n : Nat) : MapIs (w.drewN n) b l := h.move rfl
theorem MapIs.drew {w : World} {b : Nat} {l : List (Int × Value)} (h : MapIs w b l) : MapIs w.drew b l := h.move rfl
theorem MapIs.alloc {w : World} {b : Nat} {l : List (Int × Value)} (h : MapIs w b l) (o : Obj) : MapIs (w.alloc o) b l := h.move (Below.heap_alloc w o b h.lt)
theorem MapIs.made (w : World) : MapIs (w.alloc (.map #[] 0)) w.heap.size [] := ⟨⟨#[], 0, blk_new w _, rfl, by simp, by simp⟩⟩
theorem findNow_at {q : IntKind} {k : Int} {w0 : Value} : ∀ (es : List MapEntry) (l : List (Int × Value)) (i : Nat), es.map (fun e => (e.key, e.val)) = l.map (fun p => (Value.int .i64 p.1, p.2)) →
    (alook k l = none ∧ Instr.findNow (.int q) (.int .i64 k) es i = some none) ∨ ∃ j e v, es[j]? = some e ∧ e.key = .int .i64 k ∧ e.val = v ∧ alook k l = some v ∧ Instr.findNow (.int q) (.int .i64 k) es i = some (some (i + j, v)) ∧
      (es.modify j fun e => { e with key := .int .i64 k, val := w0 }).map (fun e => (e.key, e.val)) = (aput k w0 l).map (fun p => (Value.int .i64 p.1, p.2)) ∧ (es.eraseIdx j).map (fun e => (e.key, e.val)) = (adel k l).map (fun p => (Value.int .i64 p.1, p.2))
  | [], [], i, _ => Or.inl ⟨rfl, rfl⟩
  | [], _ :: _, i, h => by simp at h
  | _ :: _, [], i, h => by simp at h
  | e :: es, p :: l, i, h => by
    simp only [List.map_cons, List.cons.injEq, Prod.mk.injEq] at h
    obtain ⟨⟨h1, h2⟩, h3⟩ := h
    simp only [alook, aput, adel, Instr.findNow, h1, Instr.sameNow]
    by_cases hp : p.1 = k
    · right
      refine ⟨0, e, p.2, rfl, by rw [h1, hp], h2, by rw [if_pos hp], by simp [hp, h2], ?_, ?_⟩
      · rw [if_pos hp]; simp [h3]
      · rw [if_pos hp]; simp [h3]
    · have hk : (k == p.1) = false := by simp; exact fun e => hp e.symm
      simp only [hk, if_neg hp, if_true]
      rcases findNow_at (w0 := w0) es l (i + 1) h3 with ⟨g1, g2⟩ | ⟨j, e', v, g1, g2, g3, g4, g5, g6, g7⟩
      · exact Or.inl ⟨g1, by simpa using g2⟩
      · refine Or.inr ⟨j + 1, e', v, by simpa using g1, g2, g3, g4, by rw [show i + (j + 1) = i + 1 + j from by omega]; simpa using g5, ?_, ?_⟩
        · simp only [List.modify_succ_cons, List.map_cons, h1, h2, g6]
        · simp only [List.eraseIdx_cons_succ, List.map_cons, h1, h2, g7]
section
variable {P : Program} {T K E : TypeId} {w : World} {b : Nat} {l : List (Int × Value)}
theorem run_lookup (ht : P.underlying T = some (.map K E)) (hk : P.underlying K = some (.int .i64)) {z : Value} (hz : (zeroValue E).run P w = .ok z w) (h : MapIs w b l) (k : Int) (ok : Bool) :
    (Instr.lookup T (.map (some b)) (.int .i64 k) ok).run P w = .ok (if ok then .tuple #[(alook k l).getD z, .bool (alook k l).isSome] else (alook k l).getD z) w := by
  obtain ⟨es, clock, hb, hes, _, _⟩ := h.out
  have hc : (Instr.checkKey es.isEmpty 10000 K (.int .i64 k)).run P w = .ok () w := MapKept.run_checkKey hk (by simp [MapKept.IsKey]) _ 9999
  rcases findNow_at (q := .i64) (k := k) (w0 := .nilIface) es.toList l 0 hes with ⟨g1, g2⟩ | ⟨j, e', v, g1, g2, g3, g4, g5, g6, g7⟩
  · have hf := MapKept.run_findKey (P := P) (w := w) hk g2
    cases ok <;> simp [Instr.lookup, run_underlying ht, MapKept.run_getObj_map hb, hc, hf, hz, g1, Result.andThen]
  · have hf := MapKept.run_findKey (P := P) (w := w) hk g5
    cases ok <;> simp [Instr.lookup, run_underlying ht, MapKept.run_getObj_map hb, hc, hf, g4, Result.andThen]
theorem fr1_put {w : World} {b : Nat} {o' : Obj} (o : Obj) (hb : w.heap[b]? = some o') : Fr1 w { w with heap := w.heap.setIfInBounds b o } b ∧ ({ w with heap := w.heap.setIfInBounds b o } : World).heap[b]? = some o :=
  ⟨⟨rfl, rfl, rfl, by simp, fun k _ hn => by simp [Ne.symm hn]⟩, by simp [blk_lt hb]⟩
theorem run_mapUpdate (ht : P.underlying T = some (.map K E)) (hk : P.underlying K = some (.int .i64)) (h : MapIs w b l) (k : Int) (hw : (Lit.int .i64 k).wf = true) (v : Value) :
    ∃ w', (Instr.mapUpdate T (.map (some b)) (.int .i64 k) v).run P w = .ok () w' ∧ MapIs w' b (aput k v l) ∧ Fr1 w w' b ∧ w'.heap.size = w.heap.size := by
  obtain ⟨es, clock, hb, hes, hbo, hnd⟩ := h.out
  have hc : (Instr.checkKey false 10000 K (.int .i64 k)).run P w = .ok () w := MapKept.run_checkKey hk (by simp [MapKept.IsKey]) _ 9999
  have hst : (Instr.keyThatStays (.int .i64 k) (.int .i64 k)).run P w = .ok (.int .i64 k) w := (int_keyed hk).stays w (keyOf_int_mk hk hw)
  rcases findNow_at (q := .i64) (k := k) (w0 := v) es.toList l 0 hes with ⟨g1, g2⟩ | ⟨j, e', v', g1, g2, g3, g4, g5, g6, g7⟩
  · have hf := MapKept.run_findKey (P := P) (w := w) hk g2
    refine ⟨{ w with heap := w.heap.setIfInBounds b (.map (es.push ⟨.int .i64 k, v, clock⟩) (clock + 1)) }, by simp [Instr.mapUpdate, run_underlying ht, MapKept.run_getObj_map hb, hc, hf, MapKept.run_setObj_map _ hb, Result.andThen], ⟨⟨es.push ⟨.int .i64 k, v, clock⟩, clock + 1, (fr1_put _ hb).2, ?_, ?_, ?_⟩⟩, (fr1_put _ hb).1, by simp⟩
    · have hp : ∀ l : List (Int × Value), alook k l = none → aput k v l = l ++ [(k, v)] := by
        intro l
        induction l with
        | nil => intro _; rfl
        | cons p l ih =>
          intro h
          simp only [alook] at h
          split at h
          · exact absurd h (by simp)
          · rename_i hn; simp only [aput, if_neg hn, ih h, List.cons_append]
      rw [hp l g1]
      simp [hes]
    · intro e he
      simp only [Array.toList_push, List.mem_append, List.mem_singleton] at he
      rcases he with he | rfl
      · have := hbo e he; omega
      · simp
    · simp only [Array.toList_push, List.map_append, List.map_cons, List.map_nil]
      rw [List.nodup_append]
      refine ⟨hnd, by simp, fun a ha c hc' => ?_⟩
      obtain ⟨e, he, rfl⟩ := List.mem_map.1 ha
      have := hbo e he
      simp at hc'; omega
  · rw [Nat.zero_add] at g5
    have hf := MapKept.run_findKey (P := P) (w := w) hk g5
    have hj : ((es[j]?).map (·.key)).getD (.int .i64 k) = .int .i64 k := by
      rw [← Array.getElem?_toList, g1]; simp [g2]
    have hmo : (es.modify j fun e => { e with key := .int .i64 k, val := v }).toList = es.toList.modify j fun e => { e with key := .int .i64 k, val := v } := by
      rw [Array.toList_modify]
    have hborn : ((es.toList.modify j fun e => { e with key := .int .i64 k, val := v }).map (·.born)) = es.toList.map (·.born) := by
      apply List.ext_getElem?
      intro i
      simp only [List.getElem?_map, List.getElem?_modify]
      split <;> cases es.toList[i]? <;> simp
    refine ⟨{ w with heap := w.heap.setIfInBounds b (.map (es.modify j fun e => { e with key := .int .i64 k, val := v }) clock) }, by simp [Instr.mapUpdate, run_underlying ht, MapKept.run_getObj_map hb, hc, hf, hj, hst, MapKept.run_setObj_map _ hb, Result.andThen], ⟨⟨es.modify j fun e => { e with key := .int .i64 k, val := v }, clock, (fr1_put _ hb).2, ?_, ?_, ?_⟩⟩, (fr1_put _ hb).1, by simp⟩
    · rw [hmo]; exact g6
    · intro e he
      have : e.born ∈ es.toList.map (·.born) := by rw [← hborn, ← hmo]; exact List.mem_map_of_mem he
      obtain ⟨e2, h2, h3⟩ := List.mem_map.1 this
      have := hbo e2 h2; omega
    · rw [hmo, hborn]; exact hnd
theorem run_len {tt : TypeId} (ht : P.underlying T = some (.map K E)) (h : MapIs w b l) : (Builtin.len_ #[T] tt #[.map (some b)]).run P w = .ok (goInt l.length) w := by
  obtain ⟨es, clock, hb, hes, hbo, hnd⟩ := h.out
  have hl : es.size = l.length := by have := congrArg List.length hes; simpa using this
  simp [Builtin.len_, run_underlying ht, MapKept.run_getObj_map hb, Result.andThen, hl]
end
end Go.Proofs.Ytnkpleggmiamdaa.Mp
