/- Kept of the text KeS: what is reached (wip/tools/prune.py). -/
import Derived.Test.YtnkpleggmiamdaaVKeA
namespace Go.Proofs.Ytnkpleggmiamdaa.Ke
open Go.RowKit Go.Maps Go.Sort Go.Shelf Go.Proofs.YtnkpleggmiamdaaW.PrintWords
open Go.Proofs.Ytnkpleggmiamdaa.Mp (MapIs)
set_option linter.unusedVariables false
def keysS_ren : Go.Shelf.Ren := ⟨fun | 7 => 63 | 10 => 87 | n => n, fun | 23 => 96 | 26 => 3 | 3 => 100 | 28 => 112 | 0 => 0 | 27 => 111 | 33 => 64 | 4 => 4 | n => n, fun | n => n⟩
set_option maxRecDepth 100000 in
theorem keysS : Go.Proofs.SlLaysZI.n7 Try.prog keysS_ren := {
  mixed := by kernel_rfl,
  f7 := ⟨Try.f63.name, by decide, Try.func63.trans (congrArg some (by kernel_rfl))⟩,
  f10 := ⟨Try.f87.name, by decide, Try.func87.trans (congrArg some (by kernel_rfl))⟩,
  t0 := Try.underlying0,
  a0 := Try.isAgg0,
  z0 := Try.sizeOf0,
  v0 := Try.zeroValue0,
  t4 := Try.underlying4,
  a4 := Try.isAgg4,
  z4 := Try.sizeOf4,
  v4 := Try.zeroValue4,
  t23 := Try.underlying96,
  a23 := Try.isAgg96,
  z23 := Try.sizeOf96,
  v23 := Try.zeroValue96,
  t26 := Try.underlying3,
  a26 := Try.isAgg3,
  z26 := Try.sizeOf3,
  v26 := Try.zeroValue3,
  t27 := Try.underlying111,
  a27 := Try.isAgg111,
  z27 := Try.sizeOf111,
  v27 := Try.zeroValue111,
  t28 := Try.underlying112,
  a28 := Try.isAgg112,
  z28 := Try.sizeOf112,
  v28 := Try.zeroValue112,
  t33 := Try.underlying64,
  a33 := Try.isAgg64,
  z33 := Try.sizeOf64,
  v33 := Try.zeroValue64 }
theorem keysS_calls (mb : Option Nat) (W : World) : Calls Try.prog 63 #[.map mb] W fun e w' => e = .returned (.func (.func 87) #[] #[.pointer (some ⟨W.heap.size, 0, none⟩)]) ∧ w' = W.alloc (.cells #[.map mb] 96) :=
  (callsIn_wide (n := 5)).1 (AnyZI.keys_in keysS Fence.wide 5 trivial rfl mb W)
set_option maxHeartbeats 1000000 in
theorem sortedS_calls (g b : Nat) (l : List (Int × Value)) (w : World) (hm : MapIs w b l) (hc : w.cell? ⟨g, 0, none⟩ = some (.map (some b))) (hw : ∀ x ∈ l, (Lit.int .i64 x.1).wf = true) (hnd : (l.map (·.1)).Nodup) (hl : l.length ≤ 100000) :
    Calls Try.prog 62 #[.func (.func 87) #[] #[.pointer (some ⟨g, 0, none⟩)]] w fun e w' => ∃ v, e = .returned v ∧ Kd.R (Kd.int .i64) 3 w' w.heap.size (fun k => w.heap.size ≤ k) v (asc (l.map (·.1))) ∧ Below w.heap.size w w' := by
  obtain ⟨D, hown, hperm, hsz⟩ := owns_of_map hm hw hnd hl
  have hseq : SeqGives Fence.wide 2 Try.prog 87 #[.pointer (some ⟨g, 0, none⟩)] encZ (fun ss => ss.Perm (intKeys D)) (Maps.size D) w :=
    AnyZI.keys_gives (ρ := keysS_ren) { keysS with } Fence.wide _ trivial rfl (by omega) g b l.length D _ (Mp.cell_lt hc) hc hown
  have cS := AnyZI.sorted_in sortedA Fence.wide 5 trivial trivial trivial trivial rfl (by omega) (sortsA _) (enters_of Try.func86 (by kernel_rfl) rfl) 87 #[.pointer (some ⟨g, 0, none⟩)] trivial (enters_of Try.func87 (by kernel_rfl) rfl) _ _ (by rw [hsz]; exact Nat.le_trans hl (by decide)) (by omega) _ hseq
  refine (callsIn_wide.1 cS).mono ?_
  rintro e w' ⟨v, ss, rfl, hS, hrow, _, hb⟩
  exact ⟨v, rfl, of_sorted (hS.trans hperm) hrow, hb⟩
end Go.Proofs.Ytnkpleggmiamdaa.Ke
