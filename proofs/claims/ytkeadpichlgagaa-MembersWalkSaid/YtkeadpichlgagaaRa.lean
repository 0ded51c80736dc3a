/- append onto an empty row of the call's own that has no room ('append([]T{}, xs...)'): what was there is as it was. Nothing of the program is named. -/
import Derived.Test.YtkeadpichlgagaaRg
import Derived.Test.YtkeadpichlgagaaWWords
import Derived.Test.YtkeadpichlgagaaWMore
import Derived.Deep.RegionLawGrows
import Derived.BigQuiet
namespace Go.Proofs.Ytkeadpichlgagaa.Rg
open Go Go.RowKit Go.Proofs.YtkeadpichlgagaaW.PrintWords Go.Proofs.YtkeadpichlgagaaW.PrintLast
set_option linter.unusedVariables false
set_option linter.unusedSimpArgs false
section
variable {P : Program} {ops : Array Oper} {o : Oper} {a : Act} {Q : Exit → Act → World → Prop} {K : Act → World → Prop}

theorem quiet_skip_k {C : World → Prop} {QA : Act → Prop} {rest : List Oper} (hw : Region.wanted o (yielded ops a.tmps) = false) (h : ∀ K : Act → Prop, (∀ a, wpQuiet P ops C QA rest a → K a) → K (a.put o.dst undef)) : wpQuiet P ops C QA (o :: rest) a := BigFrame.wpQuiet_skip hw (h _ fun _ h => h)
/-- A value that was laid behind 'Slice made, empty': no room. -/
def Empty (e : TypeId) (base : Nat) (v : Value) (W : World) : Prop := ∃ g cur, v = .slice (some ⟨g, 0, none⟩) 0 0 ∧ base ≤ g ∧ W.heap[g]? = some (.cells cur e (0, 0)) ∧ cur.size = 0
theorem Empty.below {e : TypeId} {base : Nat} {v : Value} {W W' : World} (h : Empty e base v W) (hb : Below W.heap.size W W') : Empty e base v W' := by
  obtain ⟨g, cur, h1, h2, h3, h4⟩ := h
  exact ⟨g, cur, h1, h2, blk_below h3 hb, h4⟩
theorem fresh_append {α : Type} {enc : α → Value} {h1 : ∀ x : α, (enc x).oneCell' = true} {W : World} (base : Nat) (hw : Region.wanted o (yielded ops a.tmps) = true) (s x : Operand) (t e : TypeId) (z : Value) (bytes : Nat)
    (ho : o.op = .call { callee := .builtin .append, args := #[s, x], argTypes := #[t, t] })
    (hg : o.guard = none) (ht : P.underlying t = some (.slice e)) (hinfo : (P.info? e).map (fun i => (i.zero, i.size, i.bytes)) = some (some z, 1, bytes)) (hz : z.cells.size = 1) (hb0 : 0 < bytes)
    (v : Value) (ys : List α) (A : Option Addr) (m c : Nat) (hs : a.eval s = v) (hx : a.eval x = .slice A m c) (HE : Empty e base v W) (HR : (Kd.scalar enc h1).C W A m ys) (hbase : base ≤ W.heap.size) (hl : m * bytes ≤ 140737488355328)
    (h : ∀ v1 w1, (Kd.scalar enc h1).R e w1 base (fun _ => True) v1 ys → Below W.heap.size W w1 → K (a.put o.dst v1) w1) :
    if Region.wanted o (yielded ops a.tmps) = true then Oper.wp P o a W K Q else K (a.put o.dst undef) W := by
  obtain ⟨i0, hi, hzz⟩ := Option.map_eq_some_iff.1 hinfo
  simp only [Prod.mk.injEq] at hzz
  obtain ⟨hz0, hz1, hz2⟩ := hzz
  obtain ⟨g, cur, rfl, hbg, hgc, hcur⟩ := HE
  have hm : ys.length = m := HR.1
  have hlen : m ≤ 140737488355328 := Nat.le_trans (Nat.le_mul_of_pos_right _ hb0) hl
  have hmax : (140737488355328 : Nat) ≤ maxLen := by simp [maxLen]
  rcases Nat.eq_zero_or_pos m with h0 | h0
  · subst h0
    obtain rfl : ys = [] := List.eq_nil_of_length_eq_zero hm
    rw [if_pos hw]
    have hR : (Kd.scalar enc h1).R e W base (fun _ => True) (.slice (some ⟨g, 0, none⟩) 0 0) [] := Kd.R_of_own ⟨by simp [encs], .inr ⟨g, 0, cur, rfl, hbg, hgc, Nat.le_refl _, Nat.zero_le _, by simpa using hcur, by simp [encs]⟩⟩ (fun _ _ => trivial)
    have hrun : (Builtin.append_ #[t, t] o.type #[.slice (some ⟨g, 0, none⟩) 0 0, .slice A 0 c]).run P W = .ok (.slice (some ⟨g, 0, none⟩) 0 0) W := by
      rcases A with _ | ad
      · simp [Builtin.append_, run_underlying ht, sizeOf, typeInfo, hi, Builtin.lenOf, Builtin.firstCells, storeCells]
      · simp [Builtin.append_, run_underlying ht, sizeOf, typeInfo, hi, Builtin.lenOf, Builtin.firstCells, storeCells, loadCells, loadCellsFrom]
    unfold Oper.wp
    simp [execOp, ho, resolve, invoke, builtin, hs, hx, hrun, Result.andThen]
    exact h _ _ hR (Below.refl _ W)
  · obtain ⟨ad, rfl, _⟩ := HR.2.2 h0
    obtain ⟨news, hnr, hnc⟩ := ReadsRow.inner_ HR
    have hnews : news = encs enc ys := by
      apply List.ext_getElem?
      intro j
      have hl1 : news.length = ys.length := by have := hnr.1; simpa [Kd.scalar] using this
      rcases Nat.lt_or_ge j ys.length with hj | hj
      · have h2 := hnr.2 j ys[j] (List.getElem?_eq_getElem hj)
        have h3 : (news.drop (j * 1)).take 1 = [enc ys[j]] := h2
        rw [Nat.mul_one] at h3
        have h4 := congrArg (·[0]?) h3
        simp at h4
        simp [encs, h4, hj]
      · rw [List.getElem?_eq_none (by omega), List.getElem?_eq_none (by simpa [encs] using hj)]
    refine step_append_grows hg s x t ho e i0 z 1 bytes ht hi hz0 hz1 hz2 hz (by decide) (some ⟨g, 0, none⟩) 0 0 [] hs (fun h => by cases h) (by simp) (fun b _ j u hj => by simp at hj) ad m c news hx (by rw [hnews]; simp [encs, hm]) hnc
      (fun u hu => by rw [hnews] at hu; simp [encs] at hu; obtain ⟨q, _, rfl⟩ := hu; exact h1 q) (by omega) (by omega) (by simpa using hl) ?_
    intro v1 w1 hown hgr
    have hb : Below W.heap.size W w1 := ⟨hgr.os, hgr.tape, hgr.output, hgr.size, fun k hk => hgr.block k hk (by simp)⟩
    refine h v1 w1 (Kd.R_of_own ?_ (fun _ _ => trivial)) hb
    have h5 := own_weaken hown hbase
    rw [hnews, List.nil_append, Nat.zero_add, ← hm] at h5
    exact h5
end
end Go.Proofs.Ytkeadpichlgagaa.Rg
