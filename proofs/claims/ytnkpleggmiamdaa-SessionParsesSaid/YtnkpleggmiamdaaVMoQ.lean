/- Kept of the text MoQ: what is reached (wip/tools/prune.py). -/
import Derived.Test.YtnkpleggmiamdaaVMq1
import Derived.Test.YtnkpleggmiamdaaVMoP
namespace Go.Proofs.Ytnkpleggmiamdaa.Mo
open Go.RowKit Go.Maps Go.Proofs.YtnkpleggmiamdaaW.PrintWords Go.Proofs.YtnkpleggmiamdaaW.PrintLast Go.Proofs.YtnkpleggmiamdaaW.PrintMore
open Go.Proofs.Ytnkpleggmiamdaa.PSessionParses
set_option linter.unusedVariables false
set_option linter.unusedSimpArgs false
def dig : Nat → Nat → List Int
  | 0, _ => []
  | f + 1, n => if n = 0 then [] else ((n % 256 : Nat) : Int) :: dig f (n / 256)
def numB (n : Int) : List Int := ((dig 8 n.toNat).length : Int) :: (dig 8 n.toNat).reverse
def topB (n s : Nat) : List Int := ((List.range s).map fun i => ((n / 256 ^ i % 256 : Nat) : Int)).reverse
theorem topB_succ (n s : Nat) : topB n (s + 1) = ((n / 256 ^ s % 256 : Nat) : Int) :: topB n s := by
  unfold topB
  rw [List.range_succ, List.map_append, List.reverse_append]
  rfl
theorem dig_len : ∀ f n, (dig f n).length ≤ f
  | 0, n => by simp [dig]
  | f + 1, n => by
    unfold dig
    split
    · simp
    · have := dig_len f (n / 256)
      simp; omega
theorem dig_get : ∀ f n, n < 256 ^ f → dig f n = (List.range (dig f n).length).map fun i => ((n / 256 ^ i % 256 : Nat) : Int)
  | 0, n, h => by simp [dig]
  | f + 1, n, h => by
    by_cases hn : n = 0
    · subst hn; simp [dig]
    · have e : dig (f + 1) n = ((n % 256 : Nat) : Int) :: dig f (n / 256) := by
        conv => lhs; unfold dig
        rw [if_neg hn]
      rw [e, List.length_cons, List.range_succ_eq_map, List.map_cons, List.map_map]
      have ih := dig_get f (n / 256) (by rw [Nat.pow_succ] at h; exact Nat.div_lt_of_lt_mul (by omega))
      have e0 : (n / 256 ^ 0 % 256 : Nat) = n % 256 := by simp
      rw [e0]
      congr 1
      conv => lhs; rw [ih]
      apply List.map_congr_left
      intro i _
      simp only [Function.comp_apply, Nat.succ_eq_add_one]
      rw [Nat.div_div_eq_div_mul, Nat.pow_succ, Nat.mul_comm 256]
theorem dig_rev (f n : Nat) (h : n < 256 ^ f) : (dig f n).reverse = topB n (dig f n).length := by
  conv => lhs; rw [dig_get f n h]
  rfl
theorem bitLen_dig : ∀ f n, n < 256 ^ f → f ≤ 8 → (Lib.bitLen n + 7) / 8 = (dig f n).length
  | 0, n, h, _ => by
    have : n = 0 := by simp at h; omega
    subst this
    simp [dig]
    decide
  | f + 1, n, h, hf => by
    by_cases hn : n = 0
    · subst hn
      simp [dig]
      decide
    · have e : dig (f + 1) n = ((n % 256 : Nat) : Int) :: dig f (n / 256) := by
        conv => lhs; unfold dig
        rw [if_neg hn]
      have h64 : n < 18446744073709551616 := Nat.lt_of_lt_of_le h (by
        have := Nat.pow_le_pow_right (show 0 < 256 by decide) hf
        exact Nat.le_trans this (by decide))
      rw [e, List.length_cons]
      by_cases h2 : 256 ≤ n
      · have ih := bitLen_dig f (n / 256) (by rw [Nat.pow_succ] at h; exact Nat.div_lt_of_lt_mul (by omega)) (by omega)
        rw [Lib.bitLen_shift8 n h2 h64, ← ih]
        omega
      · have h0 : n / 256 = 0 := by omega
        have hb := Lib.bitLen_le8 ⟨n, by omega⟩
        have hd : dig f 0 = [] := by cases f <;> simp [dig]
        rw [h0, hd]
        have hb1 : 1 ≤ Lib.bitLen n := by rw [Lib.bitLen_half n hn h64]; omega
        simp only [] at hb
        simp
        omega
theorem wrap_small {x : Int} (h0 : -1000 ≤ x) (h1 : x ≤ 1000) : wrap64 x = x := by
  unfold wrap64
  omega
theorem l0_val (n : Nat) (h : n < 18446744073709551616) : ∀ (s k : Nat) (l : List Int), s ≤ 8 → s + 1 ≤ k → l.length + s ≤ 140737488355328 → mould_number.l0 k l (n : Int) ((s : Int) - 1) = some (l ++ topB n s)
  | 0, k, l, _, hk, hl => by
    obtain ⟨k, rfl⟩ : ∃ m, k = m + 1 := ⟨k - 1, by omega⟩
    unfold mould_number.l0
    rw [if_neg (by omega)]
    simp [topB]
  | s + 1, k, l, hs, hk, hl => by
    obtain ⟨k, rfl⟩ : ∃ m, k = m + 1 := ⟨k - 1, by omega⟩
    unfold mould_number.l0
    have e1 : ((s + 1 : Nat) : Int) - 1 = (s : Int) := by omega
    rw [e1, if_pos (by omega), wrap_small (by omega) (by omega), if_pos (by omega), if_pos (by omega), wrap_small (by omega) (by omega)]
    have e2 : shr .u64 (n : Int) (8 * (s : Int)) % 256 = ((n / 256 ^ s % 256 : Nat) : Int) := by
      unfold shr
      have e3 : min (8 * (s : Int)).toNat IntKind.u64.bits = 8 * s := by
        show min _ 64 = _
        omega
      have e4 : (2 : Int) ^ (8 * s) = ((256 ^ s : Nat) : Int) := by
        rw [show (256 : Nat) = 2 ^ 8 from rfl, ← Nat.pow_mul]
        simp
      rw [e3, e4]
      simp
    rw [e2, l0_val n h s k _ (by omega) (by omega) (by simp; omega), topB_succ]
    simp
theorem number_val {n : Int} (h0 : 0 ≤ n) (h1 : n < 18446744073709551616) (l : List Int) (hl : l.length + (numB n).length ≤ 140737488355328) (k : Nat) (hk : 10 ≤ k) : mould_number.f k l n = some (l ++ numB n) := by
  unfold mould_number.f bits_Len64.f
  rw [if_pos ⟨h0, by omega⟩]
  have hd := bitLen_dig 8 n.toNat (by show _ < 18446744073709551616; omega) (Nat.le_refl _)
  have hlen := dig_len 8 n.toNat
  unfold numB at hl ⊢
  have hle : Lib.bitLen n.toNat ≤ 64 := by omega
  simp only [List.length_cons, List.length_reverse] at hl
  simp only [Option.bind_some]
  rw [if_pos (by omega), wrap_small (x := (Lib.bitLen n.toNat : Int) + 7) (by omega) (by omega)]
  have e1 : Int.tdiv ((Lib.bitLen n.toNat : Int) + 7) 8 = ((dig 8 n.toNat).length : Int) := by
    rw [← hd]
    rw [Int.tdiv_eq_ediv_of_nonneg (by omega)]
    omega
  rw [e1, wrap_small (by omega) (by omega), wrap_small (by omega) (by omega)]
  have e2 : ((dig 8 n.toNat).length : Int) % 256 = ((dig 8 n.toNat).length : Int) := by omega
  have e3 : n = ((n.toNat : Nat) : Int) := by omega
  rw [e2]
  conv => lhs; rw [e3]
  simp only [Int.toNat_natCast]
  rw [l0_val n.toNat (by omega) _ k _ hlen (by omega) (by simp; omega), ← dig_rev 8 n.toNat (by show _ < 18446744073709551616; omega)]
  simp
end Go.Proofs.Ytnkpleggmiamdaa.Mo
