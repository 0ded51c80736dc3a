/- Kept of the text MoN: what is reached (wip/tools/prune.py). -/
import Derived.Test.YtnkpleggmiamdaaVMoM
import Derived.BigQuiet
namespace Go.Proofs.Ytnkpleggmiamdaa.Mo
open Go.RowKit Go.Maps Go.Proofs.YtnkpleggmiamdaaW.PrintWords Go.Proofs.YtnkpleggmiamdaaW.PrintLast Go.Proofs.YtnkpleggmiamdaaW.PrintMore
open Go.Proofs.Ytnkpleggmiamdaa.PSessionParses Go.Proofs.Ytnkpleggmiamdaa.Mp
set_option linter.unusedVariables false
set_option linter.unusedSimpArgs false
mutual
/-- Is a value of a shape? -/
def hasS : Sh → S105 → Bool
  | .mk c ks, v => if c = 42 then hasA ks v.f2 else if c = 91 then decide (v.f2.length = ks.length) && hasL ks v.f2 else true
def hasA : List Sh → List S105 → Bool
  | [], _ => true
  | k :: _, vs => vs.all (hasS k)
def hasL : List Sh → List S105 → Bool
  | k :: ks, v :: vs => hasS k v && hasL ks vs
  | _, _ => true
end
structure ValIs (w : World) (v : S105) (A1 : Option Addr) (c1 : Nat) (A2 : Option Addr) (c2 : Nat) : Prop where
  b : (Kd.int .u8).C w A1 v.f1.length v.f1
  bc : v.f1.length ≤ c1
  l : k105.C w A2 v.f2.length v.f2
  lc : v.f2.length ≤ c2
theorem ValIs.under {w w1 : World} {v : S105} {A1 : Option Addr} {c1 : Nat} {A2 : Option Addr} {c2 : Nat} (h : ValIs w v A1 c1 A2 c2) (hb : Below w.heap.size w w1) : ValIs w1 v A1 c1 A2 c2 :=
  ⟨Kd.C_below h.b hb, h.bc, Kd.C_below h.l hb, h.lc⟩
def HasC (k : Sh) : Prop := ∀ (w : World) (ok : Nat → Prop) (g : Nat), KindIs w ok k g → ∀ (v : S105) (A1 : Option Addr) (c1 : Nat) (A2 : Option Addr) (c2 : Nat), ValIs w v A1 c1 A2 c2 →
  Calls Try.prog 88 #[.pointer (some ⟨g, 0, none⟩), .agg #[.int .u64 v.f0, .slice A1 v.f1.length c1, .slice A2 v.f2.length c2]] w fun e w' => e = .returned (.bool (hasS k v)) ∧ Below w.heap.size w w'
set_option maxRecDepth 100000 in
theorem vidx_calls (f : Nat) (lb : Array Value) (p : S105 → Bool) (A : Option Addr) (n c : Nat) (xs : List S105) (w : World) (h : Kd.C k105 w A n xs) (hcf : ∀ args W, (callFunc f args).run Try.prog W = .ok (.enter f args) W)
    (hP : ∀ (v : S105) (A1 : Option Addr) (c1 : Nat) (A2 : Option Addr) (c2 : Nat) (W : World), Below w.heap.size w W → ValIs W v A1 c1 A2 c2 → Calls Try.prog f (#[.agg #[.int .u64 v.f0, .slice A1 v.f1.length c1, .slice A2 v.f2.length c2]] ++ lb) W fun e w' => e = .returned (.bool (p v)) ∧ Below W.heap.size W w') :
    Calls Try.prog 116 #[.slice A n c, .func (.func f) #[] lb] w fun e w' => ∃ r : Int, e = .returned (.int .i64 r) ∧ (0 ≤ r ↔ xs.any p = true) ∧ Below w.heap.size w w' := by
  have HN : Aside0 (xs.length = n) := ⟨h.1⟩
  have H := Aside0.mk h
  have hmax := h.2.1
  have HP := Aside0.mk hP
  clear h hP
  go_enter Try.func116, Try.ntmps116
  go_wp2_with fail
  go_loopg [5, 8] n (fun kq v5 v8 wr => ∃ i : Nat, v8 = .int .i64 i ∧ i + kq = n ∧ Aside0 ((xs.take i).any p = false) ∧ Aside0 (Below w.heap.size w wr))
  case atStart => exact ⟨0, rfl, by omega, ⟨rfl⟩, ⟨Below.refl _ _⟩⟩
  case round =>
    obtain ⟨i, rfl, hi, HF, HBl⟩ := hrel
    by_cases hlt : i < n
    · have hlt' : (i : Int) < (n : Int) := by omega
      obtain ⟨ad, A1, c1, A2, c2, rfl, x0, x1, x2, l1, g1, l2, g2⟩ := at_T105 (Kd.C_below H.out HBl.out) i (by omega) hlt'
      simp only [Int.toNat_natCast] at x0 x1 x2
      have hil : i < xs.length := by rw [HN.out]; exact hlt
      have HT : Aside0 ((xs.take (i + 1)).any p = ((xs.take i).any p || p (rd_T105 xs i))) := ⟨by
        rw [List.take_succ_eq_append_getElem hil, List.any_append]
        have : rd_T105 xs (i : Int) = xs[i] := by simp [rd_T105, hil]
        rw [this]
        simp⟩
      have HM : Aside0 (rd_T105 xs (i : Int) ∈ xs) := ⟨by simp [rd_T105, hil]⟩
      generalize rd_T105 xs (i : Int) = v at x0 x1 x2 l1 g1 l2 g2 HT HM
      have HC := Aside0.mk (HP.out v A1 c1 A2 c2 wr HBl.out ⟨g1, l1, g2, l2⟩)
      clear l1 g1 l2 g2 hil
      go_wp2_with fail
      refine HC.out.mono ?_
      rintro e w2 ⟨rfl, hB⟩
      have HB2 := Aside0.mk (HBl.out.trans (hB.mono HBl.out.size))
      clear hB x0 x1 x2
      cases hp : p v with
      | true =>
        have HA : Aside0 (xs.any p = true) := ⟨List.any_eq_true.2 ⟨v, HM.out, hp⟩⟩
        clear hp
        go_wp2_with fail
        go_ret
        exact ⟨_, rfl, ⟨fun _ => HA.out, fun _ => by omega⟩, HB2.out⟩
      | false =>
        have HT2 : Aside0 ((xs.take (i + 1)).any p = false) := ⟨by rw [HT.out, HF.out, hp]; rfl⟩
        clear hp
        go_wp2_with fail
        go_roundg (gk - 1)
        case measure => omega
        case rel => exact ⟨i + 1, by go_num, by omega, HT2, HB2⟩
    · have HT2 : Aside0 (xs.any p = false) := ⟨by
        have hf := HF.out
        rwa [List.take_of_length_le (by rw [HN.out]; omega)] at hf⟩
      go_wp2_with fail
      go_ret
      exact ⟨-1, rfl, ⟨fun h => by omega, fun h => by rw [HT2.out] at h; cases h⟩, HBl.out⟩
set_option maxRecDepth 100000 in
theorem vany_calls (f : Nat) (lb : Array Value) (p : S105 → Bool) (A : Option Addr) (n c : Nat) (xs : List S105) (w : World) (h : Kd.C k105 w A n xs) (hcf : ∀ args W, (callFunc f args).run Try.prog W = .ok (.enter f args) W)
    (hP : ∀ (v : S105) (A1 : Option Addr) (c1 : Nat) (A2 : Option Addr) (c2 : Nat) (W : World), Below w.heap.size w W → ValIs W v A1 c1 A2 c2 → Calls Try.prog f (#[.agg #[.int .u64 v.f0, .slice A1 v.f1.length c1, .slice A2 v.f2.length c2]] ++ lb) W fun e w' => e = .returned (.bool (p v)) ∧ Below W.heap.size W w') :
    Calls Try.prog 102 #[.slice A n c, .func (.func f) #[] lb] w fun e w' => e = .returned (.bool (xs.any p)) ∧ Below w.heap.size w w' := by
  have HC := Aside0.mk (vidx_calls f lb p A n c xs w h hcf hP)
  clear h hcf hP
  go_enter Try.func102, Try.ntmps102
  go_wp2_with fail
  refine HC.out.mono ?_
  rintro e w2 ⟨r, rfl, hr, hB⟩
  have HB := Aside0.mk hB
  have HR : Aside0 (decide (0 ≤ r) = xs.any p) := ⟨by rw [Bool.eq_iff_iff, decide_eq_true_iff]; exact hr⟩
  clear hB hr
  go_wp2_with fail
  go_ret
  exact ⟨by rw [← HR.out]; rfl, HB.out⟩
end Go.Proofs.Ytnkpleggmiamdaa.Mo
