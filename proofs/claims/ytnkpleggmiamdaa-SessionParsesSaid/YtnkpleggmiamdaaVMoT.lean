/- Kept of the text MoT: what is reached (wip/tools/prune.py). -/
import Derived.Test.YtnkpleggmiamdaaVMoS
namespace Go.Proofs.Ytnkpleggmiamdaa.Mo
open Go.RowKit Go.Maps Go.Proofs.YtnkpleggmiamdaaW.PrintWords Go.Proofs.YtnkpleggmiamdaaW.PrintLast Go.Proofs.YtnkpleggmiamdaaW.PrintMore
open Go.Proofs.Ytnkpleggmiamdaa.PSessionParses Go.Proofs.Ytnkpleggmiamdaa.Mp
set_option linter.unusedVariables false
set_option linter.unusedSimpArgs false
mutual
/-- Has each form of a shape a byte? -/
def someS : Sh → Bool
  | .mk c ks => if c = 91 then someL ks else true
def someL : List Sh → Bool
  | [] => false
  | k :: ks => someS k || someL ks
end
theorem some_eq (c : Int) (ks : List Sh) : someS (.mk c ks) = if c = 91 then someL ks else true := by
  conv => lhs; unfold someS
theorem someL_any : ∀ ks, someL ks = ks.any someS
  | [] => by simp [someL]
  | k :: ks => by
    conv => lhs; unfold someL
    rw [someL_any ks, List.any_cons]
def SomeC (k : Sh) : Prop := ∀ (w : World) (ok : Nat → Prop) (g : Nat), KindIs w ok k g →
  Calls Try.prog 97 #[.pointer (some ⟨g, 0, none⟩)] w fun e w' => e = .returned (.bool (someS k)) ∧ Below w.heap.size w w'
theorem cf94 (args : Array Value) (w : World) : (callFunc 97 args).run Try.prog w = .ok (.enter 97 args) w := by kernel_rfl
theorem any_take {α : Type} (p : α → Bool) (xs : List α) (i : Nat) (h : i < xs.length) : (xs.take (i + 1)).any p = ((xs.take i).any p || p xs[i]) := by
  rw [List.take_succ_eq_append_getElem h, List.any_append]
  simp
set_option maxRecDepth 100000 in
theorem kidx_calls (ks : List Sh) (ih : ∀ k ∈ ks, SomeC k) (A : Option Addr) (c : Nat) (gs : List Nat) (w : World) (ok : Nat → Prop) (hC : kP.C w A ks.length gs) (hk : ∀ (i : Nat) (h : i < ks.length), KindIs w ok ks[i] (gs.getD i 0)) :
    Calls Try.prog 117 #[.slice A ks.length c, .func (.func 97) #[] #[]] w fun e w' => ∃ r : Int, e = .returned (.int .i64 r) ∧ (0 ≤ r ↔ ks.any someS = true) ∧ Below w.heap.size w w' := by
  have HC := Aside0.mk hC
  have HK := Aside0.mk hk
  have IH := Aside0.mk ih
  have hmax := hC.2.1
  have hcf := cf94
  clear hC hk ih
  go_enter Try.func117, Try.ntmps117
  go_wp2_with fail
  go_loopg [5, 8] ks.length (fun kq v5 v8 wr => ∃ i : Nat, v8 = .int .i64 i ∧ i + kq = ks.length ∧ Aside0 ((ks.take i).any someS = false) ∧ Aside0 (Below w.heap.size w wr))
  case atStart => exact ⟨0, rfl, by omega, ⟨rfl⟩, ⟨Below.refl _ _⟩⟩
  case round =>
    obtain ⟨i, rfl, hi, HF, HBl⟩ := hrel
    by_cases hlt : i < ks.length
    · have hlt' : (i : Int) < (ks.length : Int) := by omega
      obtain ⟨pd, rfl, y0⟩ := at_P (Kd.C_below HC.out HBl.out) i hlt
      have HCL := Aside0.mk (IH.out ks[i] (List.getElem_mem hlt) wr ok _ ((HK.out i hlt).under HBl.out))
      have HT := Aside0.mk (any_take someS ks i hlt)
      have HM : Aside0 (someS ks[i] = true → ks.any someS = true) := ⟨fun h => List.any_eq_true.2 ⟨_, List.getElem_mem hlt, h⟩⟩
      generalize gs.getD i 0 = gi at y0 HCL
      go_wp2_with fail
      refine HCL.out.mono ?_
      rintro e w2 ⟨rfl, hB⟩
      have HB2 := Aside0.mk (HBl.out.trans (hB.mono HBl.out.size))
      clear hB y0 HCL
      generalize someS ks[i] = p at HT HM ⊢
      cases p with
      | true =>
        go_wp2_with fail
        go_ret
        exact ⟨_, rfl, ⟨fun _ => HM.out (by first | rfl | trivial), fun _ => by omega⟩, HB2.out⟩
      | false =>
        have HT2 : Aside0 ((ks.take (i + 1)).any someS = false) := ⟨by rw [HT.out, HF.out]; rfl⟩
        go_wp2_with fail
        go_roundg (gk - 1)
        case measure => omega
        case rel => exact ⟨i + 1, by go_num, by omega, HT2, HB2⟩
    · have HT2 : Aside0 (ks.any someS = false) := ⟨by
        have hf := HF.out
        rwa [List.take_of_length_le (by omega)] at hf⟩
      go_wp2_with fail
      go_ret
      exact ⟨-1, rfl, ⟨fun h => by omega, fun h => by rw [HT2.out] at h; cases h⟩, HBl.out⟩
set_option maxRecDepth 100000 in
theorem kany_calls (ks : List Sh) (ih : ∀ k ∈ ks, SomeC k) (A : Option Addr) (c : Nat) (gs : List Nat) (w : World) (ok : Nat → Prop) (hC : kP.C w A ks.length gs) (hk : ∀ (i : Nat) (h : i < ks.length), KindIs w ok ks[i] (gs.getD i 0)) :
    Calls Try.prog 105 #[.slice A ks.length c, .func (.func 97) #[] #[]] w fun e w' => e = .returned (.bool (ks.any someS)) ∧ Below w.heap.size w w' := by
  have HC := Aside0.mk (kidx_calls ks ih A c gs w ok hC hk)
  clear hC hk ih
  go_enter Try.func105, Try.ntmps105
  go_wp2_with fail
  refine HC.out.mono ?_
  rintro e w2 ⟨r, rfl, hr, hB⟩
  have HB := Aside0.mk hB
  have HR : Aside0 (decide (0 ≤ r) = ks.any someS) := ⟨by rw [Bool.eq_iff_iff, decide_eq_true_iff]; exact hr⟩
  clear hB hr
  go_wp2_with fail
  go_ret
  exact ⟨by rw [← HR.out]; rfl, HB.out⟩
set_option maxRecDepth 100000 in
theorem some_step (c : Int) (ks : List Sh) (ih : ∀ k ∈ ks, SomeC k) : SomeC (.mk c ks) := by
  intro w ok g hK
  cases hK with
  | mk hg hb hC hA hcap hw hk =>
    rename_i A cap gs
    have k0 : w.cell? ⟨g, 0, none⟩ = some (.int .u8 c) := (blk_cell hb 0).trans rfl
    have k1 : w.cell? ⟨g, 1, none⟩ = some (.slice A ks.length cap) := (blk_cell hb 1).trans rfl
    have HA := Aside0.mk (kany_calls ks ih A cap gs w ok hC hk)
    obtain ⟨bb, hbb⟩ : ∃ bb, someS (.mk c ks) = bb := ⟨_, rfl⟩
    have HBB := Aside0.mk hbb
    rw [some_eq] at hbb
    have HQ := Aside0.mk hbb
    clear hg hb hC hA hcap hw hk ih hbb
    by_cases h91 : c = 91
    · subst h91
      rw [if_pos rfl, someL_any] at HQ
      go_enter Try.func97, Try.ntmps97
      go_wp2_with fail
      refine HA.out.mono ?_
      rintro e w2 ⟨rfl, hB⟩
      have HB := Aside0.mk hB
      clear hB
      go_wp2_with fail
      go_ret
      exact ⟨by rw [HBB.out, ← HQ.out]; rfl, HB.out⟩
    · have t91 : (c != (91 : Int)) = true := by simpa using h91
      rw [if_neg h91] at HQ
      go_enter Try.func97, Try.ntmps97
      go_wp2_with fail
      go_ret
      exact ⟨by rw [HBB.out, ← HQ.out]; rfl, Below.refl _ _⟩
theorem some_calls : ∀ (k : Sh), SomeC k
  | .mk c ks => some_step c ks (fun k hk => some_calls k)
termination_by k => SizeOf.sizeOf k
decreasing_by
  have := List.sizeOf_lt_of_mem hk
  simp
  omega
end Go.Proofs.Ytnkpleggmiamdaa.Mo
