/- Kept of the text MnD: what is reached (wip/tools/prune.py). -/
import Derived.Test.YtnkpleggmiamdaaVMoZ
namespace Go.Proofs.Ytnkpleggmiamdaa.Mo
open Go.RowKit Go.Maps Go.Proofs.YtnkpleggmiamdaaW.PrintWords Go.Proofs.YtnkpleggmiamdaaW.PrintLast Go.Proofs.YtnkpleggmiamdaaW.PrintMore
open Go.Proofs.Ytnkpleggmiamdaa.PSessionParses
set_option linter.unusedVariables false
set_option linter.unusedSimpArgs false
theorem dig_zero (f : Nat) : dig f 0 = [] := by cases f <;> simp [dig]
theorem beN_dig : ∀ f n, n < 256 ^ f → beN (dig f n).reverse = (n : Int)
  | 0, n, h => by
    have : n = 0 := by simp at h; omega
    subst this
    simp [dig, beN]
  | f + 1, n, h => by
    by_cases hn : n = 0
    · subst hn; simp [dig, beN]
    · have e : dig (f + 1) n = ((n % 256 : Nat) : Int) :: dig f (n / 256) := by
        conv => lhs; unfold dig
        rw [if_neg hn]
      rw [e, List.reverse_cons, beN_snoc, beN_dig f (n / 256) (by rw [Nat.pow_succ] at h; exact Nat.div_lt_of_lt_mul (by omega))]
      omega
theorem dig_top : ∀ f n, 0 < n → n < 256 ^ f → ∃ t r, (dig f n).reverse = t :: r ∧ t ≠ 0
  | 0, n, h0, h => by simp at h; omega
  | f + 1, n, h0, h => by
    have e : dig (f + 1) n = ((n % 256 : Nat) : Int) :: dig f (n / 256) := by
      conv => lhs; unfold dig
      rw [if_neg (by omega)]
    rw [e, List.reverse_cons]
    by_cases hq : n / 256 = 0
    · rw [hq, dig_zero]
      exact ⟨_, _, rfl, by omega⟩
    · obtain ⟨t, r, h1, h2⟩ := dig_top f (n / 256) (by omega) (by rw [Nat.pow_succ] at h; exact Nat.div_lt_of_lt_mul (by omega))
      rw [h1]
      exact ⟨t, _, rfl, h2⟩
theorem dig_byt : ∀ f n, Byt (dig f n)
  | 0, n => fun x hx => by simp [dig] at hx
  | f + 1, n => fun x hx => by
    unfold dig at hx
    split at hx
    · simp at hx
    · rcases List.mem_cons.1 hx with rfl | hx
      · omega
      · exact dig_byt f _ x hx
end Go.Proofs.Ytnkpleggmiamdaa.Mo
