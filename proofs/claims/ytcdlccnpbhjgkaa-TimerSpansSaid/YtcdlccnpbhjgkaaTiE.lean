/- timer: find; Set, Clear, Due, At, Next, Len of alarms. -/
import Derived.Test.YtcdlccnpbhjgkaaTiD
namespace Go.Proofs.Ytcdlccnpbhjgkaa.Ti
open Go.RowKit Go.Maps Go.Proofs.YtcdlccnpbhjgkaaW.PrintWords Go.Proofs.YtcdlccnpbhjgkaaW.PrintLast Go.Proofs.YtcdlccnpbhjgkaaW.PrintMore
open Go.Proofs.Ytcdlccnpbhjgkaa.PTimerAlarms Go.Proofs.Ytcdlccnpbhjgkaa.Mp
set_option linter.unusedVariables false
set_option linter.unusedSimpArgs false

def fidx (k : Int) (xs : Q) : Int := match findL k xs 0 with
  | some i => (i : Int)
  | none => -1
theorem findL_some {k : Int} : ∀ {xs : Q} {i j : Nat}, findL k xs i = some j → i ≤ j ∧ j < i + xs.length ∧ (g xs (j - i)).f1 = k
  | [], i, j, h => by simp [findL] at h
  | x :: xs, i, j, h => by
    unfold findL at h
    split at h
    · next e => injection h with h; subst h; simp [g, e]
    · have := findL_some h
      obtain ⟨h1, h2, h3⟩ := this
      refine ⟨by omega, by simp; omega, ?_⟩
      rw [show j - i = (j - (i + 1)) + 1 by omega]
      simpa [g] using h3
theorem findL_none {k : Int} : ∀ {xs : Q} {i : Nat}, findL k xs i = none → k ∉ xs.map (·.f1)
  | [], i, h => by simp
  | x :: xs, i, h => by
    unfold findL at h
    split at h
    · cases h
    · next e =>
      have := findL_none h
      simp only [List.map_cons, List.mem_cons, not_or]
      exact ⟨fun h => e h.symm, this⟩
theorem findL_drop {k : Int} {xs : Q} {i : Nat} (h : i < xs.length) : findL k (xs.drop i) i = if (g xs i).f1 = k then some i else findL k (xs.drop (i + 1)) (i + 1) := by
  have e : xs.drop i = g xs i :: xs.drop (i + 1) := by
    rw [List.drop_eq_getElem_cons h]
    simp [g, h]
  rw [e]
  rfl

theorem cf97 (args : Array Value) (w : World) : (callFunc 97 args).run Try.prog w = .ok (.enter 97 args) w := by kernel_rfl

set_option maxRecDepth 100000 in
theorem eq_calls (x : S126) (bx : Nat) (k : Int) (w : World) (hb : w.heap[bx]? = some (.cells #[.int .i64 k] 3 (0, 0))) :
    Calls Try.prog 97 #[al x, .pointer (some ⟨bx, 0, none⟩)] w fun e w' => e = .returned (.bool (x.f1 == k)) ∧ Below w.heap.size w w' := by
  have c0 : (w.alloc (.cells #[.int .i64 x.f0, .int .i64 x.f1] 126)).cell? ⟨bx, 0, none⟩ = some (.int .i64 k) := (blk_cell (blk_alloc hb _) 0).trans rfl
  unfold al
  clear hb
  go_enter Try.func97, Try.ntmps97
  go_wp2_with fail
  go_ret
  exact ⟨rfl, (Below.refl _ _).alloc (Nat.le_refl _) _⟩

set_option maxRecDepth 100000 in
theorem idx_calls (A : Option Addr) (n c bx : Nat) (xs : Q) (k : Int) (w : World) (h : Kd.C k126 w A n xs) (hb : w.heap[bx]? = some (.cells #[.int .i64 k] 3 (0, 0))) :
    Calls Try.prog 96 #[.slice A n c, .func (.func 97) #[] #[.pointer (some ⟨bx, 0, none⟩)]] w fun e w' => e = .returned (.int .i64 (fidx k xs)) ∧ Below w.heap.size w w' := by
  have HN : Aside0 (xs.length = n) := ⟨h.1⟩
  have H := Aside0.mk h
  have HB := Aside0.mk hb
  have hmax := h.2.1
  clear h hb
  go_enter Try.func96, Try.ntmps96
  go_wp2_with fail
  go_loopg [5, 8] n (fun kq v5 v8 wr => ∃ i : Nat, v8 = .int .i64 i ∧ i + kq = n ∧ Aside0 (findL k (xs.drop i) i = findL k xs 0) ∧ Aside0 (Below w.heap.size w wr))
  case atStart => exact ⟨0, rfl, by omega, ⟨rfl⟩, ⟨Below.refl _ _⟩⟩
  case round =>
    obtain ⟨i, rfl, hi, HF, HBl⟩ := hrel
    by_cases hlt : i < n
    · have hlt' : (i : Int) < (n : Int) := by omega
      obtain ⟨ad, rfl, x0, x1⟩ := at_T126 (Kd.C_below H.out HBl.out) i (by omega) hlt'
      rw [rd_g] at x0 x1
      simp only [Int.toNat_natCast] at x0 x1
      have hcf := cf97
      have HD : Aside0 ((if (g xs i).f1 = k then some i else findL k (xs.drop (i + 1)) (i + 1)) = findL k xs 0) := ⟨by rw [← findL_drop (by rw [HN.out]; omega)]; exact HF.out⟩
      generalize g xs i = x at x0 x1 HD
      go_wp2_with fail
      refine (eq_calls x bx k wr (blk_below HB.out HBl.out)).mono ?_
      rintro e w2 ⟨rfl, hB⟩
      have HB2 := Aside0.mk (HBl.out.trans (hB.mono HBl.out.size))
      clear hB hcf x0 x1
      by_cases hk : x.f1 = k
      · have hb : (x.f1 == k) = true := by simpa using hk
        have HD2 : Aside0 (fidx k xs = (i : Int)) := ⟨by unfold fidx; rw [← HD.out, if_pos hk]⟩
        clear hk
        go_wp2_with fail
        go_ret
        rw [HD2.out]
        exact ⟨rfl, HB2.out⟩
      · have hb : (x.f1 == k) = false := by simpa using hk
        have HD2 : Aside0 (findL k (xs.drop (i + 1)) (i + 1) = findL k xs 0) := ⟨by rw [← HD.out, if_neg hk]⟩
        clear hk
        go_wp2_with fail
        go_roundg (gk - 1)
        case measure => omega
        case rel => exact ⟨i + 1, by go_num, by omega, HD2, HB2⟩
    · have HD2 : Aside0 (fidx k xs = -1) := ⟨by
        have hf := HF.out
        rw [List.drop_of_length_le (by rw [HN.out]; omega)] at hf
        unfold fidx
        rw [← hf]; rfl⟩
      go_wp2_with fail
      go_ret
      rw [HD2.out]
      exact ⟨rfl, HBl.out⟩

set_option maxRecDepth 100000 in
theorem find_calls (B ab : Nat) (v : Value) (xs : Q) (k : Int) (w : World) (h : QIs w B ab v xs) :
    Calls Try.prog 74 #[.pointer (some ⟨ab, 0, none⟩), .int .i64 k] w fun e w' => e = .returned (.int .i64 (fidx k xs)) ∧ Below w.heap.size w w' := by
  obtain ⟨A, c, rfl, hcap, hC⟩ := Kd.R_reads h.row
  have hmf : ∀ (fn : Fn) (first cap : Array Value) (w : World), (Instr.makeFunc fn first cap).run Try.prog w = .ok (.func fn first cap) w := fun _ _ _ _ => rfl
  have hB : Below w.heap.size w (w.alloc (.cells #[.int .i64 k] 3)) := (Below.refl _ _).alloc (Nat.le_refl _) _
  have c0 := (h.below hB).cell
  have H := Aside0.mk h
  have HC := Aside0.mk hC
  have HB := Aside0.mk hB
  clear h hC hB
  go_enter Try.func74, Try.ntmps74
  go_wp2_with fail
  refine (idx_calls A xs.length c w.heap.size xs k _ (Kd.C_below HC.out HB.out) (blk_new _ _)).mono ?_
  rintro e w2 ⟨rfl, hB2⟩
  have HB2 := Aside0.mk (HB.out.trans (hB2.mono HB.out.size))
  clear hB2
  go_wp2_with fail
  go_ret
  exact ⟨rfl, HB2.out⟩
end Go.Proofs.Ytcdlccnpbhjgkaa.Ti
