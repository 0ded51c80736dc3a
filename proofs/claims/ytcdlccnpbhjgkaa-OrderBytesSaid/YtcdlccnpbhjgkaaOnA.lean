/- the reference of mould: Number, plain; a number's form, read back. -/
import Derived.Test.YtcdlccnpbhjgkaaOb4
import Derived.Test.YtcdlccnpbhjgkaaOm6
namespace Go.Proofs.Ytcdlccnpbhjgkaa.Oo
open Go.RowKit Go.Maps Go.Proofs.YtcdlccnpbhjgkaaW.PrintWords Go.Proofs.YtcdlccnpbhjgkaaW.PrintLast Go.Proofs.YtcdlccnpbhjgkaaW.PrintMore
open Go.Proofs.Ytcdlccnpbhjgkaa.POrderBytes
set_option linter.unusedVariables false
set_option linter.unusedSimpArgs false

theorem l1_val (low : List Int) (hl : low.length ≤ 8) : ∀ (j : Nat) (out : List Int), j ≤ low.length → out.length + j ≤ 1000000 → Ev (fun k => echelonref01_Number.l1 k low out ((j : Int) - 1)) (out ++ (low.take j).reverse)
  | 0, out, hj, ho => by
    refine Ev.step (f := fun k => some out) (fun k => ?_) (by simpa using Ev.now _)
    conv => lhs; unfold echelonref01_Number.l1
    rw [if_neg (by omega)]
  | j + 1, out, hj, ho => by
    have hlt : j < low.length := by omega
    have e1 : ((j + 1 : Nat) : Int) - 1 = (j : Int) := by omega
    have hr : rd low (j : Int) = low[j] := by simp [rd, hlt]
    have hw : wrap64 ((j : Int) - 1) = (j : Int) - 1 := by unfold wrap64; omega
    refine Ev.step (f := fun k => echelonref01_Number.l1 k low (out ++ [low[j]]) ((j : Int) - 1)) (fun k => ?_) ?_
    · conv => lhs; unfold echelonref01_Number.l1
      rw [e1, if_pos (show (j : Int) ≥ 0 by omega), if_pos (show (0 : Int) ≤ (j : Int) by omega), if_pos (show (j : Int) < (low.length : Int) by omega), if_pos (show out.length < 140737488355328 by omega), hr, hw]
    · have ih := l1_val low hl j (out ++ [low[j]]) (by omega) (by simp; omega)
      have e2 : out ++ (low.take (j + 1)).reverse = (out ++ [low[j]]) ++ (low.take j).reverse := by
        rw [List.take_succ_eq_append_getElem hlt, List.reverse_append]
        simp
      rw [e2]
      exact ih
theorem l0_low (f : Nat) : ∀ (n : Nat) (low : List Int), n < 256 ^ f → f + low.length ≤ 8 → Ev (fun k => echelonref01_Number.l0 k (n : Int) low) (((low ++ dig f n).length : Int) :: (low ++ dig f n).reverse) := by
  have fin : ∀ (low : List Int), low.length ≤ 8 → Ev (fun k => echelonref01_Number.l0 k 0 low) ((low.length : Int) :: low.reverse) := by
    intro low hl
    have hw : wrap64 ((low.length : Int) - 1) = (low.length : Int) - 1 := by unfold wrap64; omega
    refine Ev.step (f := fun k => echelonref01_Number.l1 k low [(low.length : Int)] ((low.length : Int) - 1)) (fun k => ?_) ?_
    · conv => lhs; unfold echelonref01_Number.l0
      rw [if_neg (by decide), hw]
      congr 1
      congr 1
      omega
    · have := l1_val low hl low.length [(low.length : Int)] (Nat.le_refl _) (by simp; omega)
      rw [List.take_length] at this
      exact this
  induction f with
  | zero =>
    intro n low hn hl
    have : n = 0 := by simp at hn; omega
    subst this
    simp only [dig, List.append_nil]
    exact fin low (by omega)
  | succ f ih =>
    intro n low hn hl
    by_cases h0 : n = 0
    · subst h0
      simp only [dig, if_true, List.append_nil]
      exact fin low (by omega)
    · have e : dig (f + 1) n = ((n % 256 : Nat) : Int) :: dig f (n / 256) := by
        conv => lhs; unfold dig
        rw [if_neg h0]
      have e2 : low ++ dig (f + 1) n = (low ++ [((n % 256 : Nat) : Int)]) ++ dig f (n / 256) := by rw [e]; simp
      rw [e2]
      have h64 : n < 18446744073709551616 := Nat.lt_of_lt_of_le hn (by
        have := Nat.pow_le_pow_right (show 0 < 256 by decide) (show f + 1 ≤ 8 by omega)
        exact Nat.le_trans this (by decide))
      refine Ev.step (f := fun k => echelonref01_Number.l0 k ((n / 256 : Nat) : Int) (low ++ [((n % 256 : Nat) : Int)])) (fun k => ?_) (ih (n / 256) _ (by rw [Nat.pow_succ] at hn; exact Nat.div_lt_of_lt_mul (by omega)) (by simp; omega))
      conv => lhs; unfold echelonref01_Number.l0
      rw [if_pos (by omega), if_pos (by omega)]
      have e3 : IntKind.u64.wrap (Int.tdiv (n : Int) 256) = ((n / 256 : Nat) : Int) := by
        rw [Int.tdiv_eq_ediv_of_nonneg (by omega)]
        simp [IntKind.wrap, IntKind.signed, IntKind.bits]
        omega
      have e4 : (Int.tmod (n : Int) 256) % 256 = ((n % 256 : Nat) : Int) := by
        rw [Int.tmod_eq_emod_of_nonneg (by omega)]
        omega
      rw [e3, e4]
theorem refnumber_val {n : Int} (h0 : 0 ≤ n) (h1 : n < 18446744073709551616) : Ev (fun k => echelonref01_Number.f k n) (numB n) := by
  have h := l0_low 8 n.toNat [] (by show _ < 18446744073709551616; omega) (by simp)
  have e : ((n.toNat : Nat) : Int) = n := by omega
  rw [e] at h
  exact h
/-- The bytes of a number, read. -/
theorem dig_zero (f : Nat) : dig f 0 = [] := by cases f <;> simp [dig]
theorem beN_dig : ∀ f n, n < 256 ^ f → beN (dig f n).reverse = (n : Int)
  | 0, n, h => by
    have : n = 0 := by simp at h; omega
    subst this
    simp [dig, beN]
  | f + 1, n, h => by
    by_cases hn : n = 0
    · subst hn; simp [dig, beN]
    · have e : dig (f + 1) n = ((n % 256 : Nat) : Int) :: dig f (n / 256) := by
        conv => lhs; unfold dig
        rw [if_neg hn]
      rw [e, List.reverse_cons, beN_snoc, beN_dig f (n / 256) (by rw [Nat.pow_succ] at h; exact Nat.div_lt_of_lt_mul (by omega))]
      omega
theorem dig_top : ∀ f n, 0 < n → n < 256 ^ f → ∃ t r, (dig f n).reverse = t :: r ∧ t ≠ 0
  | 0, n, h0, h => by simp at h; omega
  | f + 1, n, h0, h => by
    have e : dig (f + 1) n = ((n % 256 : Nat) : Int) :: dig f (n / 256) := by
      conv => lhs; unfold dig
      rw [if_neg (by omega)]
    rw [e, List.reverse_cons]
    by_cases hq : n / 256 = 0
    · rw [hq, dig_zero]
      exact ⟨_, _, rfl, by omega⟩
    · obtain ⟨t, r, h1, h2⟩ := dig_top f (n / 256) (by omega) (by rw [Nat.pow_succ] at h; exact Nat.div_lt_of_lt_mul (by omega))
      rw [h1]
      exact ⟨t, _, rfl, h2⟩
theorem dig_byt : ∀ f n, Byt (dig f n)
  | 0, n => fun x hx => by simp [dig] at hx
  | f + 1, n => fun x hx => by
    unfold dig at hx
    split at hx
    · simp at hx
    · rcases List.mem_cons.1 hx with rfl | hx
      · omega
      · exact dig_byt f _ x hx
theorem numB_byt (n : Int) : Byt (numB n) := fun x hx => by
  unfold numB at hx
  have hl := dig_len 8 n.toNat
  rcases List.mem_cons.1 hx with rfl | hx
  · omega
  · exact dig_byt 8 _ x (List.mem_reverse.1 hx)
/-- A number's form, and bytes behind it, is read as the number. -/
theorem numS_numB {n : Int} (h0 : 0 ≤ n) (h1 : n < 18446744073709551616) (t : List Int) : numS (numB n ++ t) 0 = (n, t, 0) := by
  have hl := dig_len 8 n.toNat
  have hlt : n.toNat < 256 ^ 8 := by show _ < 18446744073709551616; omega
  have hb := beN_dig 8 n.toNat hlt
  unfold numB numS
  rw [if_pos rfl]
  simp only [List.cons_append]
  have hlr : (dig 8 n.toNat).reverse.length = (dig 8 n.toNat).length := List.length_reverse
  rw [if_neg, if_neg]
  · rw [Int.toNat_natCast, ← hlr, List.take_left, List.drop_left, hb]
    congr 1
    omega
  · simp; omega
  · rintro (h | ⟨h2, _, h4⟩)
    · omega
    · by_cases hn : n.toNat = 0
      · rw [hn, dig_zero] at h2
        simp at h2
      · obtain ⟨t', r, e, ht⟩ := dig_top 8 n.toNat (by omega) hlt
        rw [e] at h4
        simp at h4
        exact ht h4
theorem numB_0 (n : Int) : ∃ r, numB n = (((numB n).length - 1 : Nat) : Int) :: r := ⟨(dig 8 n.toNat).reverse, by unfold numB; simp⟩
/-- A longer form is of a greater number. -/
theorem dig_mono : ∀ f m n, m ≤ n → (dig f m).length ≤ (dig f n).length
  | 0, m, n, _ => by simp [dig]
  | f + 1, m, n, h => by
    by_cases hm : m = 0
    · subst hm; simp [dig]
    · have e : dig (f + 1) n = ((n % 256 : Nat) : Int) :: dig f (n / 256) := by
        conv => lhs; unfold dig
        rw [if_neg (by omega)]
      have e' : dig (f + 1) m = ((m % 256 : Nat) : Int) :: dig f (m / 256) := by
        conv => lhs; unfold dig
        rw [if_neg hm]
      rw [e, e']
      have := dig_mono f (m / 256) (n / 256) (Nat.div_le_div_right h)
      simp; omega
theorem numB_mono {a b : Int} (h : (numB a).length < (numB b).length) : a < b := by
  rcases Int.lt_or_le a b with h1 | h1
  · exact h1
  · have := dig_mono 8 b.toNat a.toNat (by omega)
    unfold numB at h
    simp at h
    omega
theorem take_n {n : Int} (h0 : 0 ≤ n) (h1 : n < 18446744073709551616) : takeTop [110] (numB n) = (⟨n, [], []⟩, 0) := by
  have hp : parseF [110] = some (.mk 110 []) := by rfl
  have hn := numS_numB h0 h1 []
  rw [List.append_nil] at hn
  unfold takeTop
  rw [hp]
  simp only
  rw [take_eq, if_pos rfl, hn]
  rfl
theorem take_long {n : Int} (r : List Int) (h : 0 ≤ n) : takeTop [110] ((n + 1) :: 0 :: r) = (⟨0, [], []⟩, 13) := by
  have hp : parseF [110] = some (.mk 110 []) := by rfl
  have hn : numS ((n + 1) :: 0 :: r) 0 = (0, (n + 1) :: 0 :: r, 13) := by
    unfold numS
    rw [if_pos rfl]
    simp only
    rw [if_pos (.inr ⟨by omega, by simp, by simp⟩)]
  unfold takeTop
  rw [hp]
  simp only
  rw [take_eq, if_pos rfl, hn]
  rfl
end Go.Proofs.Ytcdlccnpbhjgkaa.Oo
