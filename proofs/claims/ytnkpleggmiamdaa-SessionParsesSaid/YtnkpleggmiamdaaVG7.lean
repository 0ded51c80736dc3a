/- Kept of the text Rg: what is reached (wip/tools/prune.py). -/
import Derived.Test.YtnkpleggmiamdaaVWLast
import Derived.Below
import Derived.Test.YtnkpleggmiamdaaVWWords
import Derived.Test.YtnkpleggmiamdaaVWMore
import Derived.Deep.RegionLawGrows
import Derived.BigQuiet
import Derived.Test.YtnkpleggmiamdaaVMp
import Derived.WideKeyEntry
namespace Go.Proofs.Ytnkpleggmiamdaa.Rg
open Go Go.RowKit Go.Proofs.YtnkpleggmiamdaaW.PrintLast
set_option linter.unusedVariables false
set_option linter.unusedSimpArgs false
section
variable {P : Program} {ops : Array Oper} {Q : Exit → Act → World → Prop} {md : Region.Mode} {S : World → Prop} {ds : List Nat}
end
end Go.Proofs.Ytnkpleggmiamdaa.Rg

/- Kept of the text Ra: what is reached (wip/tools/prune.py). -/
namespace Go.Proofs.Ytnkpleggmiamdaa.Rg
open Go Go.RowKit Go.Proofs.YtnkpleggmiamdaaW.PrintWords Go.Proofs.YtnkpleggmiamdaaW.PrintLast
set_option linter.unusedVariables false
set_option linter.unusedSimpArgs false
section
variable {P : Program} {ops : Array Oper} {o : Oper} {a : Act} {Q : Exit → Act → World → Prop} {K : Act → World → Prop}
end
end Go.Proofs.Ytnkpleggmiamdaa.Rg

/- Kept of the text MpE: what is reached (wip/tools/prune.py). -/
namespace Go.Proofs.Ytnkpleggmiamdaa.Mp
open Go.RowKit Go.Maps Go.ChangeMaps Go.MapKept Go.WideElems
set_option linter.unusedVariables false
set_option linter.unusedSimpArgs false
section
variable {P : Program} {T K E : TypeId} {w : World} {b : Nat} {l : List (Int × Value)}
theorem aput_new {β : Type} {k : Int} {v : β} : ∀ l : List (Int × β), alook k l = none → aput k v l = l ++ [(k, v)]
  | [], _ => rfl
  | p :: l, h => by
    simp only [alook] at h
    split at h
    · exact absurd h (by simp)
    · rename_i hn; simp only [aput, if_neg hn, aput_new l h, List.cons_append]
theorem run_mapEntry (ht : P.underlying T = some (.map K E)) (hk : P.underlying K = some (.int .i64)) (h : MapIs w b l) (k : Int) (hw : (Lit.int .i64 k).wf = true) (hn : alook k l = none) {z : Value} (hz : (zeroValue E).run P w = .ok z w) :
    ∃ (st : Nat) (w1 : World), (Instr.mapEntry T (.map (some b)) (.int .i64 k)).run P w = .ok (.tuple #[z, .int .i64 st]) w1 ∧ Fr1 w w1 b ∧ w1.heap.size = w.heap.size ∧
      ∀ (w2 : World) (v : Value), w2.heap[b]? = w1.heap[b]? → ∃ w3, (Instr.entryStore T (.map (some b)) (.int .i64 st) v).run P w2 = .ok () w3 ∧ MapIs w3 b (aput k v l) ∧ Fr1 w2 w3 b ∧ w3.heap.size = w2.heap.size := by
  obtain ⟨es, clock, hb, hes, hbo, hnd⟩ := h.out
  have hc : (Instr.checkKey false 10000 K (.int .i64 k)).run P w = .ok () w := MapKept.run_checkKey hk (by simp [MapKept.IsKey]) _ 9999
  rcases findNow_at (q := .i64) (k := k) (w0 := z) es.toList l 0 hes with ⟨g1, g2⟩ | ⟨j, e', v', g1, g2, g3, g4, g5, g6, g7⟩
  · have hf := MapKept.run_findKey (P := P) (w := w) hk g2
    refine ⟨clock, { w with heap := w.heap.setIfInBounds b (.map (es.push ⟨.int .i64 k, z, clock⟩) (clock + 1)) }, by simp [Instr.mapEntry, run_underlying ht, MapKept.run_getObj_map hb, hc, hf, hz, MapKept.run_setObj_map _ hb, Result.andThen, goInt], (fr1_put _ hb).1, by simp, fun w2 v hw2 => ?_⟩
    rw [(fr1_put _ hb).2] at hw2
    have hidx : (es.push ⟨.int .i64 k, z, clock⟩).findIdx? (fun e => ((e.born : Nat) : Int) == ((clock : Nat) : Int)) = some es.size := by
      rw [findIdx_arr]
      have := findIdx_born (l := (es.push ⟨.int .i64 k, z, clock⟩).toList) (j := es.size) (e0 := ⟨.int .i64 k, z, clock⟩) (by
        simp only [Array.toList_push, List.map_append, List.map_cons, List.map_nil]
        refine List.nodup_append.2 ⟨hnd, by simp, fun a ha c hc e1 => ?_⟩
        simp only [List.mem_singleton] at hc
        obtain ⟨x, hx, rfl⟩ := List.mem_map.1 ha
        have := hbo x hx
        omega) (by simp)
      exact this
    have hmod : (es.push ⟨.int .i64 k, z, clock⟩).modify es.size (fun e => { e with val := v }) = es.push ⟨.int .i64 k, v, clock⟩ := by
      apply Array.ext'
      rw [Array.toList_modify, Array.toList_push, Array.toList_push, ← Array.length_toList, modify_last]
    refine ⟨{ w2 with heap := w2.heap.setIfInBounds b (.map (es.push ⟨.int .i64 k, v, clock⟩) (clock + 1)) }, by simp [Instr.entryStore, MapKept.run_getObj_map hw2, asInt, asIntOf, hidx, hmod, MapKept.run_setObj_map _ hw2, Result.andThen], ⟨⟨es.push ⟨.int .i64 k, v, clock⟩, clock + 1, (fr1_put _ hw2).2, ?_, ?_, ?_⟩⟩, (fr1_put _ hw2).1, by simp⟩
    · rw [aput_new l hn]
      simp [hes]
    · intro e he
      simp only [Array.toList_push, List.mem_append, List.mem_singleton] at he
      rcases he with he | rfl
      · have := hbo e he; omega
      · simp
    · simp only [Array.toList_push, List.map_append, List.map_cons, List.map_nil]
      rw [List.nodup_append]
      refine ⟨hnd, by simp, fun a ha c hc' => ?_⟩
      obtain ⟨e, he, rfl⟩ := List.mem_map.1 ha
      have := hbo e he
      simp at hc'; omega
  · rw [g4] at hn; cases hn
end
end Go.Proofs.Ytnkpleggmiamdaa.Mp
