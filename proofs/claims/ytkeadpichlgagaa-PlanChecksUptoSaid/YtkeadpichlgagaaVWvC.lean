/- Kept of the text WvC: what is reached (wip/tools/prune.py). -/
import Derived.Test.YtkeadpichlgagaaVWvB
import Derived.Deep.RegionLaw
namespace Go.Proofs.Ytkeadpichlgagaa.Wv
open Go.RowKit Go.Maps Go.Proofs.YtkeadpichlgagaaW.PrintWords Go.Proofs.YtkeadpichlgagaaW.PrintLast Go.Proofs.YtkeadpichlgagaaW.PrintMore
open Go.Proofs.Ytkeadpichlgagaa.PWaveReady Go.Proofs.Ytkeadpichlgagaa.Mp
set_option linter.unusedVariables false
set_option linter.unusedSimpArgs false
set_option linter.unnecessarySimpa false
theorem QIs.ne {w : World} {B ab : Nat} {v : Value} {xs : Q} (h : QIs w B ab v xs) : some ab ≠ v.ownBlock := Kd.R_ne h.row h.blk (by decide)
def Turn (ab : Nat) (v v' : Value) (w w' : World) : Prop := FrS (fun k => k = ab ∨ v.ownBlock = some k) w w' ∧ (v'.ownBlock = v.ownBlock ∨ ∃ b, v'.ownBlock = some b ∧ w.heap.size ≤ b)
theorem FrS.of_grown {w w1 : World} {row : Option Nat} (hg : w.grownBy w1 row) : FrS (fun k => row = some k) w w1 :=
  ⟨hg.os, hg.tape, hg.output, hg.size, fun k hk hn => hg.block k hk (fun e => hn e.symm)⟩
theorem QIs.stored {w1 : World} {B ab : Nat} {v u : Value} {ys : Q} (h : w1.heap[ab]? = some (.cells #[v] 132 (0, 0))) (hr : QR w1 B u ys) : QIs (w1.setCell ⟨ab, 0, none⟩ u) B ab u ys :=
  ⟨blk_set h 0 u, Kd.R_set hr h (by decide) 0 u⟩
theorem assert3 (x : Int) (w : World) : (Instr.typeAssert (.iface 3 (.int .i64 x)) 20 3 true).run Try.prog w = .ok (.tuple #[.int .i64 x, .bool true]) w := by kernel_rfl
set_option maxRecDepth 100000 in
theorem qpush_calls (B ab : Nat) (v : Value) (xs : Q) (x : Int) (w : World) (h : QIs w B ab v xs) (hB : B ≤ w.heap.size) (hmx : xs.length ≤ 1000000) :
    Calls Try.prog 189 #[.pointer (some ⟨ab, 0, none⟩), .iface 3 (.int .i64 x)] w fun e w' => e = .returned (.tuple #[]) ∧ ∃ v', QIs w' B ab v' (xs ++ [x]) ∧ Turn ab v v' w w' := by
  have c0 := h.cell
  have H := Aside0.mk h
  have hta := assert3 x
  have HB := Aside0.mk hB
  have HM := Aside0.mk hmx
  clear h hB hmx
  go_enter Try.func189, Try.ntmps189
  go_wp2_with ((with_reducible refine gate_builtin (b := .append) (xs := #[.tmp 15, .tmp 17]) rfl ?_); at_builtin; refine Kd.R_append (Kd.int .i64) (w0 := w) B rfl (.tmp 15) (.tmp 17) 132 3 (.int .i64 0) 8 rfl Try.underlying132 info3 rfl (by decide) (by decide) v xs x [.int .i64 x] (fun _ => True) (fun _ => False) rfl rfl ?aP (fun _ hk => hk.elim) ?aF ?aO ?aB ?aS ?aL ?_; (case aP => exact rfl); (case aF => exact fun _ _ => trivial); (case aO => exact H.out.row); (case aB => exact Below.refl _ _); (case aS => exact HB.out); (case aL => have := HM.out; omega); intro v1 w1 ho hb hg hat; obtain ⟨A1, cc1, ev1⟩ := Kd.R_slice ho; subst ev1; have k1 := (blk_cell (blk_grown H.out.blk hg (H.out.ne)) 0).trans (show _ = some v from rfl); have k2 := blk_frozen (blk_grown H.out.blk hg (H.out.ne)) 0; have HO := Aside0.mk ho; have HG := Aside0.mk hg; have HAT := Aside0.mk hat; clear ho hb hg hat)
  go_end0
  have hb1 := blk_grown H.out.blk HG.out H.out.ne
  have F := ((FrS.of_grown HG.out).mono (fun k _ h => Or.inr h) (S' := fun k => k = ab ∨ v.ownBlock = some k)).set (p := ⟨ab, 0, none⟩) (fun _ => .inl rfl) (.slice A1 (xs.length + 1) cc1)
  have hr := HO.out
  have ha := HAT.out
  rw [List.length_append, List.length_singleton] at hr ha
  exact ⟨rfl, _, QIs.stored hb1 hr, F, ha.imp (fun h => h) (fun ⟨b, e, hb⟩ => ⟨b, e, hb⟩)⟩
set_option maxRecDepth 100000 in
theorem qpop_calls (B ab : Nat) (v : Value) (xs : Q) (w : World) (h : QIs w B ab v xs) (hp : 0 < xs.length) (hmx : xs.length ≤ 1000000) :
    Calls Try.prog 188 #[.pointer (some ⟨ab, 0, none⟩)] w fun e w' => e = .returned (.iface 3 (.int .i64 (g xs (xs.length - 1)))) ∧ ∃ v', QIs w' B ab v' (xs.take (xs.length - 1)) ∧ v'.ownBlock = v.ownBlock ∧ FrS (fun k => k = ab) w w' := by
  obtain ⟨gb, c, rfl, hne⟩ := h.form hp
  have c0 := h.cell
  obtain ⟨x0, hf⟩ := h.row.elem (i := xs.length - 1) (by omega)
  obtain ⟨_, hcap, _⟩ := Kd.R_reads' h.row
  have hfz := blk_frozen h.blk 0
  have H := Aside0.mk h
  generalize g xs (xs.length - 1) = x at x0 ⊢
  obtain ⟨n, hn⟩ : ∃ n, xs.length = n + 1 := ⟨xs.length - 1, by omega⟩
  clear h
  have HN := Aside0.mk hn
  rw [hn] at x0 c0 hcap hmx ⊢
  rw [Nat.add_sub_cancel] at x0 ⊢
  clear hn hp
  go_enter Try.func188, Try.ntmps188
  go_wp2_with fail
  go_quiet (fail)
  go_wp2_with fail
  go_region
  go_wp2_with fail
  go_ret
  have hb := H.out.blk
  rw [HN.out] at hb
  have hr := Kd.R_take (m := n) H.out.row (by rw [HN.out]; omega)
  have hB : Below w.heap.size w (w.drewN (nq + 1)) := pw_below_drewN (Below.refl _ _) _
  exact ⟨rfl, _, QIs.stored (blk_below hb hB) (Kd.R_below hr hB), rfl, (FrS.of_below hB (S := fun k => k = ab)).set (p := ⟨ab, 0, none⟩) (fun _ => rfl) _⟩
end Go.Proofs.Ytkeadpichlgagaa.Wv
