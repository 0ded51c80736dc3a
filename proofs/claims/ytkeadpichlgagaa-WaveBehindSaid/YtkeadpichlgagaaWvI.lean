/- wave: a predicate handed to the library; Ready, walked. -/
import Derived.Test.YtkeadpichlgagaaWvH
namespace Go.Proofs.Ytkeadpichlgagaa.Wv
open Go.RowKit Go.Maps Go.Proofs.YtkeadpichlgagaaW.PrintWords Go.Proofs.YtkeadpichlgagaaW.PrintLast Go.Proofs.YtkeadpichlgagaaW.PrintMore
open Go.Proofs.Ytkeadpichlgagaa.PWaveReady Go.Proofs.Ytkeadpichlgagaa.Mp
set_option linter.unusedVariables false
set_option linter.unusedSimpArgs false
set_option linter.unnecessarySimpa false

theorem any_take {α : Type} (p : α → Bool) (xs : List α) (i : Nat) (h : i < xs.length) : (xs.take (i + 1)).any p = ((xs.take i).any p || p xs[i]) := by
  rw [List.take_succ_eq_append_getElem h, List.any_append]
  simp
/-- A closure over one variable, asked of the numbers of a list. -/
structure Asks (g : Nat) (b : Nat) (p : Int → Bool) (xs : List Int) (w : World) : Prop where
  cf : ∀ (args : Array Value) (w : World), (callFunc g args).run Try.prog w = .ok (.enter g args) w
  at' : ∀ e ∈ xs, ∀ W : World, Below w.heap.size w W → Calls Try.prog g #[.int .i64 e, .pointer (some ⟨b, 0, none⟩)] W fun e' w' => e' = .returned (.bool (p e)) ∧ Below W.heap.size W w'
set_option maxRecDepth 100000 in
theorem idx_calls (g b : Nat) (p : Int → Bool) (A : Option Addr) (c : Nat) (xs : List Int) (w : World) (hC : (Kd.int .i64).C w A xs.length xs) (hp : Asks g b p xs w) :
    Calls Try.prog 110 #[.slice A xs.length c, .func (.func g) #[] #[.pointer (some ⟨b, 0, none⟩)]] w fun e w' => ∃ r : Int, e = .returned (.int .i64 r) ∧ (0 ≤ r ↔ xs.any p = true) ∧ Below w.heap.size w w' := by
  have HC := Aside0.mk hC
  have HP := Aside0.mk hp
  have hmax := hC.2.1
  have hcf := hp.cf
  clear hC hp
  go_enter Try.func110, Try.ntmps110
  go_wp2_with fail
  go_loopg [5, 8] xs.length (fun kq v5 v8 wr => ∃ i : Nat, v8 = .int .i64 i ∧ i + kq = xs.length ∧ Aside0 ((xs.take i).any p = false) ∧ Aside0 (Below w.heap.size w wr))
  case atStart => exact ⟨0, rfl, by omega, ⟨rfl⟩, ⟨Below.refl _ _⟩⟩
  case round =>
    obtain ⟨i, rfl, hi, HF, HBl⟩ := hrel
    by_cases hlt : i < xs.length
    · have hlt' : (i : Int) < (xs.length : Int) := by omega
      obtain ⟨pd, rfl, y0⟩ := Kd.at_int (Kd.C_below HC.out HBl.out) i (by omega) hlt'
      simp only [Int.toNat_natCast] at y0
      have er : rd xs (i : Int) = xs[i] := by simp [rd, hlt]
      rw [er] at y0
      have HCL := Aside0.mk (HP.out.at' xs[i] (List.getElem_mem hlt) wr HBl.out)
      have HT := Aside0.mk (any_take p xs i hlt)
      have HM : Aside0 (p xs[i] = true → xs.any p = true) := ⟨fun h => List.any_eq_true.2 ⟨_, List.getElem_mem hlt, h⟩⟩
      clear er
      generalize xs[i] = x at y0 HCL HT HM
      go_wp2_with fail
      refine HCL.out.mono ?_
      rintro e w2 ⟨rfl, hB⟩
      have HB2 := Aside0.mk (HBl.out.trans (hB.mono HBl.out.size))
      clear hB y0 HCL
      generalize p x = px at HT HM ⊢
      cases px with
      | true =>
        go_wp2_with fail
        go_ret
        exact ⟨_, rfl, ⟨fun _ => HM.out (by first | rfl | trivial), fun _ => by omega⟩, HB2.out⟩
      | false =>
        have HT2 : Aside0 ((xs.take (i + 1)).any p = false) := ⟨by rw [HT.out, HF.out]; rfl⟩
        go_wp2_with fail
        go_roundg (gk - 1)
        case measure => omega
        case rel => exact ⟨i + 1, by go_num, by omega, HT2, HB2⟩
    · have HT2 : Aside0 (xs.any p = false) := ⟨by
        have hf := HF.out
        rwa [List.take_of_length_le (by omega)] at hf⟩
      go_wp2_with fail
      go_ret
      exact ⟨-1, rfl, ⟨fun h => by omega, fun h => by rw [HT2.out] at h; cases h⟩, HBl.out⟩
set_option maxRecDepth 100000 in
theorem any_calls (g b : Nat) (p : Int → Bool) (A : Option Addr) (c : Nat) (xs : List Int) (w : World) (hC : (Kd.int .i64).C w A xs.length xs) (hp : Asks g b p xs w) :
    Calls Try.prog 73 #[.slice A xs.length c, .func (.func g) #[] #[.pointer (some ⟨b, 0, none⟩)]] w fun e w' => e = .returned (.bool (xs.any p)) ∧ Below w.heap.size w w' := by
  have HC := Aside0.mk (idx_calls g b p A c xs w hC hp)
  clear hC hp
  go_enter Try.func73, Try.ntmps73
  go_wp2_with fail
  refine HC.out.mono ?_
  rintro e w2 ⟨r, rfl, hr, hB⟩
  have HB := Aside0.mk hB
  have HR : Aside0 (decide (0 ≤ r) = xs.any p) := ⟨by rw [Bool.eq_iff_iff, decide_eq_true_iff]; exact hr⟩
  clear hB hr
  go_wp2_with fail
  go_ret
  exact ⟨by rw [← HR.out]; rfl, HB.out⟩

/-- Is a node over? -/
def isO (over : List Bool) (e : Int) : Bool := decide (e < (over.length : Int)) && rdOf false over e
set_option maxRecDepth 100000 in
theorem is_calls (bx : Nat) (A : Option Addr) (c : Nat) (over : List Bool) (e : Int) (w : World) (hb : w.cell? ⟨bx, 0, none⟩ = some (.slice A over.length c)) (hC : Kd.bool.C w A over.length over) (he : 0 ≤ e) :
    Calls Try.prog 72 #[.int .i64 e, .pointer (some ⟨bx, 0, none⟩)] w fun e' w' => e' = .returned (.bool (isO over e)) ∧ w' = w := by
  have HC := Aside0.mk hC
  have hmax := hC.2.1
  clear hC
  unfold isO
  by_cases hlt : e < (over.length : Int)
  · obtain ⟨ad, rfl, x0⟩ := Kd.at_bool HC.out e he hlt
    have hd : decide (e < (over.length : Int)) = true := decide_eq_true hlt
    obtain ⟨n, rfl⟩ : ∃ n : Nat, e = n := ⟨e.toNat, by omega⟩
    simp only [Int.toNat_natCast] at x0
    generalize rdOf false over (n : Int) = r at x0
    rw [hd, Bool.true_and]
    have hd2 : decide (n < over.length) = true := decide_eq_true (by omega)
    go_enter Try.func72, Try.ntmps72
    go_wp2_with fail
    go_ret
    exact ⟨rfl, rfl⟩
  · have hd : decide (e < (over.length : Int)) = false := decide_eq_false hlt
    rw [hd, Bool.false_and]
    go_enter Try.func72, Try.ntmps72
    go_wp2_with fail
    go_ret
    exact ⟨rfl, rfl⟩
theorem cf72 (args : Array Value) (w : World) : (callFunc 72 args).run Try.prog w = .ok (.enter 72 args) w := by kernel_rfl
theorem cf74 (args : Array Value) (w : World) : (callFunc 74 args).run Try.prog w = .ok (.enter 74 args) w := by kernel_rfl
theorem cf75 (args : Array Value) (w : World) : (callFunc 75 args).run Try.prog w = .ok (.enter 75 args) w := by kernel_rfl
set_option maxRecDepth 100000 in
theorem nis_calls (fx bx : Nat) (A : Option Addr) (c : Nat) (over : List Bool) (e : Int) (w : World) (hf : w.cell? ⟨fx, 0, none⟩ = some (.func (.func 72) #[] #[.pointer (some ⟨bx, 0, none⟩)])) (hb : w.cell? ⟨bx, 0, none⟩ = some (.slice A over.length c)) (hC : Kd.bool.C w A over.length over) (he : 0 ≤ e) :
    Calls Try.prog 74 #[.int .i64 e, .pointer (some ⟨fx, 0, none⟩)] w fun e' w' => e' = .returned (.bool (!isO over e)) ∧ w' = w := by
  have HC := Aside0.mk (is_calls bx A c over e w hb hC he)
  have hcf := cf72
  clear hC hb
  go_enter Try.func74, Try.ntmps74
  go_wp2_with fail
  refine HC.out.mono ?_
  rintro e w2 ⟨rfl, rfl⟩
  go_wp2_with fail
  go_ret
  exact ⟨rfl, rfl⟩
end Go.Proofs.Ytkeadpichlgagaa.Wv
