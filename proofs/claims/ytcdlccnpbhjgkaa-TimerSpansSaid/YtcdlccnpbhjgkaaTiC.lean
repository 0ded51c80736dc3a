/- timer: Push, Pop of the queue; heap.Push, heap.Pop, heap.Fix, heap.Remove; find. -/
import Derived.Test.YtcdlccnpbhjgkaaTiB
import Derived.Deep.RegionLaw
namespace Go.Proofs.Ytcdlccnpbhjgkaa.Ti
open Go.RowKit Go.Maps Go.Proofs.YtcdlccnpbhjgkaaW.PrintWords Go.Proofs.YtcdlccnpbhjgkaaW.PrintLast Go.Proofs.YtcdlccnpbhjgkaaW.PrintMore
open Go.Proofs.Ytcdlccnpbhjgkaa.PTimerAlarms Go.Proofs.Ytcdlccnpbhjgkaa.Mp
set_option linter.unusedVariables false
set_option linter.unusedSimpArgs false

theorem QIs.ne {w : World} {B ab : Nat} {v : Value} {xs : Q} (h : QIs w B ab v xs) : some ab ≠ v.ownBlock := Kd.R_ne h.row h.blk (by decide)
def al (x : S126) : Value := .agg #[.int .i64 x.f0, .int .i64 x.f1]
/-- What one turn of the queue leaves as it was. -/
def Turn (ab : Nat) (v v' : Value) (w w' : World) : Prop := FrS (fun k => k = ab ∨ v.ownBlock = some k) w w' ∧ (v'.ownBlock = v.ownBlock ∨ ∃ b, v'.ownBlock = some b ∧ w.heap.size ≤ b)

theorem FrS.of_grown {w w1 : World} {row : Option Nat} (hg : w.grownBy w1 row) : FrS (fun k => row = some k) w w1 :=
  ⟨hg.os, hg.tape, hg.output, hg.size, fun k hk hn => hg.block k hk (fun e => hn e.symm)⟩
theorem QIs.stored {w1 : World} {B ab : Nat} {v u : Value} {ys : Q} (h : w1.heap[ab]? = some (.cells #[v] 50 (0, 0))) (hr : QR w1 B u ys) : QIs (w1.setCell ⟨ab, 0, none⟩ u) B ab u ys :=
  ⟨blk_set h 0 u, Kd.R_set hr h (by decide) 0 u⟩
theorem assert126 (x0 x1 : Int) (w : World) : (Instr.typeAssert (.iface 126 (.agg #[.int .i64 x0, .int .i64 x1])) 20 126 true).run Try.prog w = .ok (.tuple #[.agg #[.int .i64 x0, .int .i64 x1], .bool true]) w := by kernel_rfl
set_option maxRecDepth 100000 in
theorem qpush_calls (B ab : Nat) (v : Value) (xs : Q) (x : S126) (w : World) (h : QIs w B ab v xs) (hB : B ≤ w.heap.size) (hmx : xs.length ≤ 1000000) :
    Calls Try.prog 145 #[.pointer (some ⟨ab, 0, none⟩), .iface 126 (al x)] w fun e w' => e = .returned (.tuple #[]) ∧ ∃ v', QIs w' B ab v' (xs ++ [x]) ∧ Turn ab v v' w w' := by
  have c0 := h.cell
  have H := Aside0.mk h
  unfold al
  obtain ⟨x0, x1⟩ := x
  have hta := assert126 x0 x1
  have HB := Aside0.mk hB
  have HM := Aside0.mk hmx
  clear h hB hmx
  go_enter Try.func145, Try.ntmps145
  go_wp2_with fail
  have hbl : Below w.heap.size w (w.alloc (.cells #[.int .i64 x0, .int .i64 x1] 126)) := (Below.refl _ _).alloc (Nat.le_refl _) _
  have H1 := Aside0.mk (H.out.below hbl)
  have HBL := Aside0.mk hbl
  have c2 : (w.alloc (.cells #[.int .i64 x0, .int .i64 x1] 126)).cell? ⟨w.heap.size, 0, none⟩ = some (.int .i64 x0) := (blk_cell (blk_new w _) 0).trans rfl
  have c3 : (w.alloc (.cells #[.int .i64 x0, .int .i64 x1] 126)).cell? ⟨w.heap.size, 1, none⟩ = some (.int .i64 x1) := (blk_cell (blk_new w _) 1).trans rfl
  clear hbl c0
  generalize w.alloc (.cells #[.int .i64 x0, .int .i64 x1] 126) = wa at H1 HBL c2 c3 ⊢
  have c1 := H1.out.cell
  have c4 : (wa.alloc (.cells #[.int .i64 x0, .int .i64 x1] 126)).cell? ⟨ab, 0, none⟩ = some v := (blk_cell (blk_alloc H1.out.blk _) 0).trans rfl
  generalize w.heap.size = bx at c2 c3 ⊢
  go_region_law (rw [show (wa.alloc (.cells #[.int .i64 x0, .int .i64 x1] 126)).drew = wa.drew.alloc (.cells #[.int .i64 x0, .int .i64 x1] 126) from rfl]; refine Kd.R_append_step k126 (w0 := wa.drew) B (by rfl) (.tmp 15) (.tmp 17) 48 126 (.agg #[.int .i64 0, .int .i64 0]) 16 rfl Try.underlying48 info126 rfl (by decide) (by decide) v xs ⟨x0, x1⟩ [.int .i64 x0, .int .i64 x1] (fun _ => True) (fun _ => False) rfl rfl ?aP (fun _ hk => hk.elim) ?aF ?aO ?aB ?aS ?aL ?_; (case aP => exact k126_mkM _ _ _ _); (case aF => exact fun _ _ => trivial); (case aO => exact Kd.R_drew H1.out.row); (case aB => exact Below.refl _ _); (case aS => have := HB.out; have := HBL.out.size; simp; omega); (case aL => have := HM.out; omega); intro v1 w1 ho hb hg hat; obtain ⟨A1, cc1, ev1⟩ := Kd.R_slice ho; subst ev1; have k1 := (blk_cell (blk_grown (blk_drew H1.out.blk) hg (H1.out.ne)) 0).trans rfl; have k2 := blk_frozen (blk_grown (blk_drew H1.out.blk) hg (H1.out.ne)) 0; have HO := Aside0.mk ho; have HB1 := Aside0.mk hb; have HG := Aside0.mk hg; have HAT := Aside0.mk hat; clear ho hb hg hat)
  all_goals
    go_end0
    have hb1 := blk_grown (blk_drew H1.out.blk) HG.out H1.out.ne
    have F := (((FrS.of_below HBL.out (S := fun k => k = ab ∨ v.ownBlock = some k)).drew).trans ((FrS.of_grown HG.out).mono (fun k _ h => .inr h))).set (p := ⟨ab, 0, none⟩) (fun _ => .inl rfl) (.slice A1 (xs.length + 1) cc1)
    have hr := HO.out
    have ha := HAT.out
    rw [List.length_append, List.length_singleton] at hr ha
    refine ⟨rfl, _, QIs.stored hb1 hr, F, ha.imp (fun h => h) (fun ⟨b, e, hb⟩ => ⟨b, e, Nat.le_trans HBL.out.size hb⟩)⟩

set_option maxRecDepth 100000 in
theorem qpop_calls (B ab : Nat) (v : Value) (xs : Q) (w : World) (h : QIs w B ab v xs) (hp : 0 < xs.length) (hmx : xs.length ≤ 1000000) :
    Calls Try.prog 144 #[.pointer (some ⟨ab, 0, none⟩)] w fun e w' => e = .returned (.iface 126 (al (g xs (xs.length - 1)))) ∧ ∃ v', QIs w' B ab v' (xs.take (xs.length - 1)) ∧ v'.ownBlock = v.ownBlock ∧ FrS (fun k => k = ab) w w' := by
  obtain ⟨gb, c, rfl, hne⟩ := h.form hp
  have c0 := h.cell
  obtain ⟨x0, x1, hf⟩ := h.row.elem (i := xs.length - 1) (by omega)
  obtain ⟨_, hcap, _⟩ := Kd.R_reads' h.row
  have hfz := blk_frozen h.blk 0
  have H := Aside0.mk h
  unfold al
  generalize g xs (xs.length - 1) = x at x0 x1 ⊢
  obtain ⟨n, hn⟩ : ∃ n, xs.length = n + 1 := ⟨xs.length - 1, by omega⟩
  clear h
  have HN := Aside0.mk hn
  rw [hn] at x0 x1 c0 hcap hmx ⊢
  rw [Nat.add_sub_cancel] at x0 x1 ⊢
  have hb := H.out.blk
  rw [hn] at hb
  have d0 := (blk_cell (blk_alloc hb (.cells #[.int .i64 x.f0, .int .i64 x.f1] 126)) 0).trans (show _ = some (Value.slice (some ⟨gb, 0, none⟩) (n + 1) c) from rfl)
  have d1 := blk_frozen (blk_alloc hb (.cells #[.int .i64 x.f0, .int .i64 x.f1] 126)) 0
  have hlt := blk_lt hb
  have n1 : ¬ (ab = w.heap.size) := by omega
  have n2 : ¬ (w.heap.size = ab) := by omega
  have d2 := (blk_cell (blk_far (blk_new w (.cells #[.int .i64 x.f0, .int .i64 x.f1] 126)) (p := ⟨ab, 0, none⟩) n2 (.slice (some ⟨gb, 0, none⟩) n c)) 0).trans (show _ = some (Value.int .i64 x.f0) from rfl)
  have d3 := (blk_cell (blk_far (blk_new w (.cells #[.int .i64 x.f0, .int .i64 x.f1] 126)) (p := ⟨ab, 0, none⟩) n2 (.slice (some ⟨gb, 0, none⟩) n c)) 1).trans (show _ = some (Value.int .i64 x.f1) from rfl)
  clear hn hp hb hlt
  go_enter Try.func144, Try.ntmps144
  go_wp2_with fail
  go_ret
  have hb := H.out.blk
  have hr := Kd.R_take (m := n) H.out.row (by rw [HN.out]; omega)
  have hB : Below w.heap.size w (w.alloc (.cells #[.int .i64 x.f0, .int .i64 x.f1] 126)) := (Below.refl _ _).alloc (Nat.le_refl _) _
  exact ⟨rfl, _, QIs.stored (blk_below hb hB) (Kd.R_below hr hB), rfl, (FrS.of_below hB (S := fun k => k = ab)).set (p := ⟨ab, 0, none⟩) (fun _ => rfl) _⟩
end Go.Proofs.Ytcdlccnpbhjgkaa.Ti
