/- HealthWell: the plain part: how many ones a window's bits have. -/
import Derived.Test.YtnkpleggmiamdaaHeB
import Derived.Lib.BitFns
import Derived.Laws.Bits64b
import Derived.Laws.Bits128
namespace Go.Proofs.Ytnkpleggmiamdaa.He
open Go.Lib Go.RowKit Go.Maps Go.Proofs.Ytnkpleggmiamdaa.PHealthApart Go.Proofs.Ytnkpleggmiamdaa.Mp
set_option linter.unusedVariables false
set_option linter.unusedSimpArgs false
theorem land_block (k a b c d : Nat) (hb : b < 2 ^ k) (hd : d < 2 ^ k) : (2 ^ k * a + b) &&& (2 ^ k * c + d) = 2 ^ k * (a &&& c) + (b &&& d) := by
  have h : (b &&& d) < 2 ^ k := Nat.and_lt_two_pow _ hd
  apply Nat.eq_of_testBit_eq
  intro j
  rw [Nat.testBit_and, Nat.testBit_two_pow_mul_add _ hb, Nat.testBit_two_pow_mul_add _ hd, Nat.testBit_two_pow_mul_add _ h]
  split <;> rw [Nat.testBit_and]
theorem land256 (a b c d : Nat) (hb : b < 256) (hd : d < 256) : (256 * a + b) &&& (256 * c + d) = 256 * (a &&& c) + (b &&& d) := land_block 8 a b c d hb hd
/-- A byte over and over. -/
def rep (m : Nat) : Nat → Nat
  | 0 => 0
  | n + 1 => 256 * rep m n + m
def p1 (M x : Nat) : Nat := (x / 2 &&& M) + (x &&& M)
def p2 (M x : Nat) : Nat := (x / 4 &&& M) + (x &&& M)
def p3 (M x : Nat) : Nat := (x / 16 + x) &&& M
theorem d1 : ∀ r : Fin 2, ∀ b : Fin 256, ((128 * r.val + b.val / 2) &&& 85) = ((b.val / 2) &&& 85) := by decide +kernel
theorem d2 : ∀ r : Fin 4, ∀ b : Fin 256, ((64 * r.val + b.val / 4) &&& 51) = ((b.val / 4) &&& 51) := by decide +kernel
theorem d3 : ∀ r : Fin 5, ∀ b : Fin 69, ((16 * r.val + b.val / 16 + b.val) &&& 15) = ((b.val / 16 + b.val) &&& 15) := by decide +kernel
theorem p1_step (M a b : Nat) (hb : b < 256) : p1 (256 * M + 85) (256 * a + b) = 256 * p1 M a + p1 85 b := by
  unfold p1
  have e : (256 * a + b) / 2 = 256 * (a / 2) + (128 * (a % 2) + b / 2) := by omega
  have h := d1 ⟨a % 2, by omega⟩ ⟨b, hb⟩
  simp only at h
  rw [e, land256 _ _ _ _ (by omega) (by omega), land256 _ _ _ _ hb (by omega), h]
  omega
theorem p2_step (M a b : Nat) (hb : b < 256) : p2 (256 * M + 51) (256 * a + b) = 256 * p2 M a + p2 51 b := by
  unfold p2
  have e : (256 * a + b) / 4 = 256 * (a / 4) + (64 * (a % 4) + b / 4) := by omega
  have h := d2 ⟨a % 4, by omega⟩ ⟨b, hb⟩
  simp only at h
  rw [e, land256 _ _ _ _ (by omega) (by omega), land256 _ _ _ _ hb (by omega), h]
  omega
theorem p3_step (M a b : Nat) (hb : b < 69) (ha : a % 16 < 5) : p3 (256 * M + 15) (256 * a + b) = 256 * p3 M a + p3 15 b := by
  unfold p3
  have e : (256 * a + b) / 16 + (256 * a + b) = 256 * (a / 16 + a) + (16 * (a % 16) + b / 16 + b) := by omega
  have h := d3 ⟨a % 16, ha⟩ ⟨b, hb⟩
  simp only at h
  rw [e, land256 _ _ _ _ (by omega) (by omega), h]
def pb (b : Nat) : Nat := p3 15 (p2 51 (p1 85 b))
theorem pb_eq : ∀ b : Fin 256, pb b.val = popAux 8 b.val ∧ p1 85 b.val < 256 ∧ p2 51 (p1 85 b.val) < 69 ∧ p2 51 (p1 85 b.val) % 16 < 5 ∧ popAux 8 b.val ≤ 8 := by decide +kernel
/-- The three first stages of a number of n bytes: each byte's ones. -/
def ones : Nat → Nat → Nat
  | 0, _ => 0
  | n + 1, x => 256 * ones n (x / 256) + popAux 8 (x % 256)
theorem stages : ∀ (n x : Nat), x < 256 ^ n → p2 (rep 51 n) (p1 (rep 85 n) x) % 16 < 5 ∧ p3 (rep 15 n) (p2 (rep 51 n) (p1 (rep 85 n) x)) = ones n x
  | 0, x, h => by
    obtain rfl : x = 0 := by simpa using h
    exact ⟨by decide, by decide⟩
  | n + 1, x, h => by
    obtain ⟨i1, i2⟩ := stages n (x / 256) (by rw [Nat.pow_succ] at h; omega)
    obtain ⟨h1, h2, h3, h4, _⟩ := pb_eq ⟨x % 256, by omega⟩
    simp only at h1 h2 h3 h4
    have e : x = 256 * (x / 256) + x % 256 := by omega
    have e1 : p1 (rep 85 (n + 1)) x = 256 * p1 (rep 85 n) (x / 256) + p1 85 (x % 256) := by
      conv => lhs; rw [e]
      exact p1_step _ _ _ (by omega)
    rw [e1]
    have e2 : p2 (rep 51 (n + 1)) (256 * p1 (rep 85 n) (x / 256) + p1 85 (x % 256)) = 256 * p2 (rep 51 n) (p1 (rep 85 n) (x / 256)) + p2 51 (p1 85 (x % 256)) := p2_step _ _ _ h2
    rw [e2]
    refine ⟨by omega, ?_⟩
    rw [show rep 15 (n + 1) = 256 * rep 15 n + 15 from rfl, p3_step _ _ _ h3 i1, i2]
    show _ = 256 * ones n (x / 256) + popAux 8 (x % 256)
    rw [← h1]; rfl
theorem popAux_add : ∀ (f g x : Nat), popAux (f + g) x = popAux f (x % 2 ^ f) + popAux g (x / 2 ^ f)
  | 0, g, x => by simp [popAux]
  | f + 1, g, x => by
    rw [show f + 1 + g = (f + g) + 1 by omega, popAux, popAux_add f g (x / 2), popAux]
    have e1 : x % 2 ^ (f + 1) % 2 = x % 2 := by rw [Nat.pow_succ, Nat.mod_mul_left_mod]
    have e2 : x % 2 ^ (f + 1) / 2 = x / 2 % 2 ^ f := by
      rw [Nat.pow_succ, Nat.mul_comm, Nat.mod_mul, Nat.add_comm, Nat.mul_add_div (by decide)]
      omega
    have e3 : x / 2 / 2 ^ f = x / 2 ^ (f + 1) := by rw [Nat.div_div_eq_div_mul, Nat.pow_succ, Nat.mul_comm]
    rw [e1, e2, e3]; omega
theorem ones_bits (c0 c1 c2 c3 c4 c5 c6 c7 x y z t : Nat) (h0 : c0 ≤ 8) (h1 : c1 ≤ 8) (h2 : c2 ≤ 8) (h3 : c3 ≤ 8) (h4 : c4 ≤ 8) (h5 : c5 ≤ 8) (h6 : c6 ≤ 8) (h7 : c7 ≤ 8)
    (hx : x = c0 + 256 * (c1 + 256 * (c2 + 256 * (c3 + 256 * (c4 + 256 * (c5 + 256 * (c6 + 256 * c7))))))) (hy : y = x + x / 256) (hz : z = y + y / 65536) (ht : t = z + z / 4294967296) : t < 18446744073709551616 ∧ y < 18446744073709551616 ∧ z < 18446744073709551616 ∧ t % 128 = c0 + c1 + c2 + c3 + c4 + c5 + c6 + c7 := by
  have e1 : x / 256 = c1 + 256 * (c2 + 256 * (c3 + 256 * (c4 + 256 * (c5 + 256 * (c6 + 256 * c7))))) := by
    rw [hx]
    generalize c1 + 256 * (c2 + 256 * (c3 + 256 * (c4 + 256 * (c5 + 256 * (c6 + 256 * c7))))) = q
    omega
  rw [e1, hx] at hy
  have y1 : y = (c0 + c1) + 256 * (c1 + c2) + 65536 * ((c2 + c3) + 256 * (c3 + c4) + 65536 * ((c4 + c5) + 256 * (c5 + c6) + 65536 * ((c6 + c7) + 256 * c7))) := by rw [hy]; omega
  have e2 : y / 65536 = (c2 + c3) + 256 * (c3 + c4) + 65536 * ((c4 + c5) + 256 * (c5 + c6) + 65536 * ((c6 + c7) + 256 * c7)) := by
    rw [y1]
    generalize (c2 + c3) + 256 * (c3 + c4) + 65536 * ((c4 + c5) + 256 * (c5 + c6) + 65536 * ((c6 + c7) + 256 * c7)) = q
    omega
  rw [e2, y1] at hz
  have z1 : z = ((c0 + c1 + c2 + c3) + 256 * (c1 + c2 + c3 + c4) + 65536 * (c2 + c3 + c4 + c5) + 16777216 * (c3 + c4 + c5 + c6)) + 4294967296 * ((c4 + c5 + c6 + c7) + 256 * (c5 + c6 + c7) + 65536 * (c6 + c7) + 16777216 * c7) := by rw [hz]; omega
  have e3 : z / 4294967296 = (c4 + c5 + c6 + c7) + 256 * (c5 + c6 + c7) + 65536 * (c6 + c7) + 16777216 * c7 := by
    rw [z1]
    have : (c0 + c1 + c2 + c3) + 256 * (c1 + c2 + c3 + c4) + 65536 * (c2 + c3 + c4 + c5) + 16777216 * (c3 + c4 + c5 + c6) < 4294967296 := by omega
    generalize (c0 + c1 + c2 + c3) + 256 * (c1 + c2 + c3 + c4) + 65536 * (c2 + c3 + c4 + c5) + 16777216 * (c3 + c4 + c5 + c6) = p at this ⊢
    generalize (c4 + c5 + c6 + c7) + 256 * (c5 + c6 + c7) + 65536 * (c6 + c7) + 16777216 * c7 = q
    omega
  rw [e3, z1] at ht
  clear hx e1 hy e2 e3
  have by_ : y < 18446744073709551616 := by clear z1 hz ht; omega
  have bz_ : z < 18446744073709551616 := by clear y1 hz ht; omega
  have bt_ : t < 18446744073709551616 := by clear y1 z1 hz by_ bz_; omega
  clear y1 z1 hz
  have t1 : t = (c0 + c1 + c2 + c3 + c4 + c5 + c6 + c7) + 128 * (2 * ((c1 + c2 + c3 + c4 + c5 + c6 + c7) + 256 * (c2 + c3 + c4 + c5 + c6 + c7) + 65536 * (c3 + c4 + c5 + c6 + c7)) + 33554432 * ((c4 + c5 + c6 + c7) + 256 * (c5 + c6 + c7) + 65536 * (c6 + c7) + 16777216 * c7)) := by rw [ht]; omega
  refine ⟨bt_, by_, bz_, ?_⟩
  clear bt_ by_ bz_ ht
  have : c0 + c1 + c2 + c3 + c4 + c5 + c6 + c7 < 128 := by omega
  rw [t1]
  generalize c0 + c1 + c2 + c3 + c4 + c5 + c6 + c7 = p at this ⊢
  generalize 2 * ((c1 + c2 + c3 + c4 + c5 + c6 + c7) + 256 * (c2 + c3 + c4 + c5 + c6 + c7) + 65536 * (c3 + c4 + c5 + c6 + c7)) + 33554432 * ((c4 + c5 + c6 + c7) + 256 * (c5 + c6 + c7) + 65536 * (c6 + c7) + 16777216 * c7) = q
  omega
theorem ones64 (x u y z t : Nat) (hu : ones 8 x = u) (hy : u + u / 256 = y) (hz : y + y / 65536 = z) (ht : z + z / 4294967296 = t) : t < 18446744073709551616 ∧ y < 18446744073709551616 ∧ z < 18446744073709551616 ∧ t % 128 = onesCount x := by
  have hp : ∀ b, b < 256 → popAux 8 b ≤ 8 := fun b hb => (pb_eq ⟨b, hb⟩).2.2.2.2
  have e : onesCount x = popAux 8 (x % 256) + (popAux 8 (x / 256 % 256) + (popAux 8 (x / 256 / 256 % 256) + (popAux 8 (x / 256 / 256 / 256 % 256) + (popAux 8 (x / 256 / 256 / 256 / 256 % 256) + (popAux 8 (x / 256 / 256 / 256 / 256 / 256 % 256) + (popAux 8 (x / 256 / 256 / 256 / 256 / 256 / 256 % 256) + popAux 8 (x / 256 / 256 / 256 / 256 / 256 / 256 / 256 % 256))))))) := by
    unfold onesCount
    rw [show (64 : Nat) = 8 + (8 + (8 + (8 + (8 + (8 + (8 + (8 + 0))))))) from rfl]
    iterate 8 rw [popAux_add 8]
    rfl
  have := ones_bits (popAux 8 (x % 256)) (popAux 8 (x / 256 % 256)) (popAux 8 (x / 256 / 256 % 256)) (popAux 8 (x / 256 / 256 / 256 % 256)) (popAux 8 (x / 256 / 256 / 256 / 256 % 256)) (popAux 8 (x / 256 / 256 / 256 / 256 / 256 % 256)) (popAux 8 (x / 256 / 256 / 256 / 256 / 256 / 256 % 256)) (popAux 8 (x / 256 / 256 / 256 / 256 / 256 / 256 / 256 % 256)) u y z t
    (hp _ (Nat.mod_lt _ (by decide))) (hp _ (Nat.mod_lt _ (by decide))) (hp _ (Nat.mod_lt _ (by decide))) (hp _ (Nat.mod_lt _ (by decide))) (hp _ (Nat.mod_lt _ (by decide))) (hp _ (Nat.mod_lt _ (by decide))) (hp _ (Nat.mod_lt _ (by decide))) (hp _ (Nat.mod_lt _ (by decide)))
    (by rw [← hu]; simp only [ones]; omega) hy.symm hz.symm ht.symm
  refine ⟨this.1, this.2.1, this.2.2.1, ?_⟩
  rw [this.2.2.2, e]; omega
theorem popAux_le : ∀ (f x k : Nat), x < 2 ^ k → popAux f x ≤ k
  | 0, _, _, _ => Nat.zero_le _
  | f + 1, x, 0, h => by
    obtain rfl : x = 0 := by simpa using h
    have := popAux_le f 0 0 (by decide)
    rw [popAux]; simpa using this
  | f + 1, x, k + 1, h => by
    rw [popAux]
    have := popAux_le f (x / 2) k (by rw [Nat.pow_succ] at h; omega)
    omega
theorem popAux_full : ∀ j : Nat, popAux j (2 ^ j - 1) = j
  | 0 => rfl
  | j + 1 => by
    have hp : 0 < 2 ^ j := Nat.two_pow_pos j
    rw [popAux, show (2 ^ (j + 1) - 1) % 2 = 1 by rw [Nat.pow_succ]; omega, show (2 ^ (j + 1) - 1) / 2 = 2 ^ j - 1 by rw [Nat.pow_succ]; omega, popAux_full j]
    omega
theorem popAux_zero : ∀ f : Nat, popAux f 0 = 0
  | 0 => rfl
  | f + 1 => by rw [popAux]; simp [popAux_zero f]
/-- Few ones: the low ones are gone. -/
theorem few {x n j : Nat} (hx : x < 2 ^ n) (hj : x % 2 ^ j = 0) (hn : j ≤ n) (h64 : n ≤ 64) : onesCount x ≤ n - j := by
  unfold onesCount
  rw [show (64 : Nat) = j + (64 - j) by omega, popAux_add, hj, popAux_zero, Nat.zero_add]
  refine popAux_le _ _ _ ((Nat.div_lt_iff_lt_mul (Nat.two_pow_pos j)).2 ?_)
  rw [← Nat.pow_add, show n - j + j = n by omega]; exact hx
theorem many {x j : Nat} (hj : x % 2 ^ j = 2 ^ j - 1) (h64 : j ≤ 64) : j ≤ onesCount x := by
  unfold onesCount
  rw [show (64 : Nat) = j + (64 - j) by omega, popAux_add, hj, popAux_full]
  omega
/-- A window of n bits takes a report. -/
def stp (n b : Nat) (good : Bool) : Nat := 2 * b % 2 ^ n + if good then 0 else 1
theorem stp_lt {n b : Nat} (h1 : 1 ≤ n) (good : Bool) : stp n b good < 2 ^ n := by
  obtain ⟨m, rfl⟩ : ∃ m, n = m + 1 := ⟨n - 1, by omega⟩
  have : 2 * b % 2 ^ (m + 1) = 2 * (b % 2 ^ m) := by rw [Nat.pow_succ, Nat.mul_comm (2 ^ m) 2, Nat.mul_mod_mul_left]
  have h := Nat.mod_lt b (Nat.two_pow_pos m)
  unfold stp
  rw [this, Nat.pow_succ]
  cases good <;> simp <;> omega
theorem stp_good {n b j : Nat} (hj : j + 1 ≤ n) (h : b % 2 ^ j = 0) : stp n b true % 2 ^ (j + 1) = 0 := by
  unfold stp
  simp only [if_true, Nat.add_zero]
  rw [Nat.mod_mod_of_dvd _ (Nat.pow_dvd_pow 2 hj), Nat.pow_succ, Nat.mul_comm (2 ^ j) 2, Nat.mul_mod_mul_left, h]
theorem stp_bad {n b j : Nat} (hj : j + 1 ≤ n) (h : b % 2 ^ j = 2 ^ j - 1) : stp n b false % 2 ^ (j + 1) = 2 ^ (j + 1) - 1 := by
  have e : 2 * b % 2 ^ n % 2 ^ (j + 1) = 2 * (2 ^ j - 1) := by
    rw [Nat.mod_mod_of_dvd _ (Nat.pow_dvd_pow 2 hj), Nat.pow_succ, Nat.mul_comm (2 ^ j) 2, Nat.mul_mod_mul_left, h]
  have hp : 0 < 2 ^ j := Nat.two_pow_pos j
  unfold stp
  simp only [Bool.false_eq_true, if_false]
  rw [Nat.add_mod, e, Nat.mod_eq_of_lt (show 1 < 2 ^ (j + 1) by rw [Nat.pow_succ]; omega), Nat.mod_eq_of_lt] <;> rw [Nat.pow_succ] <;> omega
theorem mask_nat (n : Nat) (h : n ≤ 64) : maskF (n : Int) = ((2 ^ n - 1 : Nat) : Int) := by
  have : ∀ m : Fin 65, maskF (m.val : Int) = ((2 ^ m.val - 1 : Nat) : Int) := by decide +kernel
  exact this ⟨n, by omega⟩
theorem bitsF_nat (b n : Nat) (hb : b < 2 ^ n) (h1 : 1 ≤ n) (h64 : n ≤ 64) (good : Bool) : bitsF (b : Int) (n : Int) good = (stp n b good : Int) := by
  have hle : (2 : Nat) ^ n ≤ 2 ^ 64 := Nat.pow_le_pow_right (by decide) h64
  have h2 : (2 : Nat) ^ 64 = 18446744073709551616 := by decide
  have hm : 2 * b % 2 ^ n < 2 ^ n := Nat.mod_lt _ (Nat.two_pow_pos n)
  have hdv : 2 * b % 18446744073709551616 % 2 ^ n = 2 * b % 2 ^ n := by rw [← h2]; exact Nat.mod_mod_of_dvd _ (Nat.pow_dvd_pow 2 h64)
  have e1 : bits .and .u64 (IntKind.u64.wrap ((b : Int) * 2)) (maskF n) = ((2 * b % 2 ^ n : Nat) : Int) := by
    rw [mask_nat n h64, IntKind.wrap_u64, show ((b : Int) * 2) % 18446744073709551616 = ((2 * b % 18446744073709551616 : Nat) : Int) by omega,
      bits_and_u64_nat _ _ (by omega) (by omega), Nat.and_two_pow_sub_one_eq_mod, hdv]
  unfold bitsF stp
  cases good with
  | true => simp only [if_true]; rw [e1, Nat.add_zero]
  | false =>
    simp only [Bool.false_eq_true, if_false]
    rw [e1]
    have := bits_or_u64_nat (2 * b % 2 ^ n) 1 (by omega) (by decide)
    rw [show (1 : Int) = ((1 : Nat) : Int) from rfl, this]
    obtain ⟨m, rfl⟩ : ∃ m, n = m + 1 := ⟨n - 1, by omega⟩
    have e2 : 2 * b % 2 ^ (m + 1) = 2 ^ 1 * (b % 2 ^ m) := by rw [Nat.pow_succ, Nat.mul_comm (2 ^ m) 2, Nat.mul_mod_mul_left]
    rw [e2, Nat.two_pow_add_eq_or_of_lt (by decide : 1 < 2 ^ 1)]

def i1 (a : Int) : Int := IntKind.u64.wrap ((Go.bits .and .u64 (a / 2) 6148914691236517205) + (Go.bits .and .u64 a 6148914691236517205))
def i2 (a : Int) : Int := IntKind.u64.wrap ((Go.bits .and .u64 (a / 4) 3689348814741910323) + (Go.bits .and .u64 a 3689348814741910323))
def i3 (a : Int) : Int := Go.bits .and .u64 (IntKind.u64.wrap (a / 16 + a)) 1085102592571150095
def i4 (a : Int) : Int := IntKind.u64.wrap (a + a / 256)
def i5 (a : Int) : Int := IntKind.u64.wrap (a + a / 65536)
def i6 (a : Int) : Int := IntKind.u64.wrap (a + a / 4294967296)
theorem ones_eq (a : Int) : bits_OnesCount64.f a = some (Go.bits .and .i64 (wrap64 (i6 (i5 (i4 (i3 (i2 (i1 a))))))) 127) := rfl
theorem rep85 : rep 85 8 = 6148914691236517205 := by decide
theorem rep51 : rep 51 8 = 3689348814741910323 := by decide
theorem rep15 : rep 15 8 = 1085102592571150095 := by decide
theorem i1_nat (x : Nat) (h : x < 18446744073709551616) : i1 x = (p1 (rep 85 8) x : Int) ∧ p1 (rep 85 8) x < 18446744073709551616 := by
  rw [rep85]
  have a1 := bits_and_u64_nat (x / 2) 6148914691236517205 (by omega) (by decide)
  have a2 := bits_and_u64_nat x 6148914691236517205 h (by decide)
  have b1 : x / 2 &&& 6148914691236517205 ≤ 6148914691236517205 := Nat.and_le_right
  have b2 : x &&& 6148914691236517205 ≤ 6148914691236517205 := Nat.and_le_right
  unfold i1 p1
  rw [show ((x : Int) / 2) = ((x / 2 : Nat) : Int) by omega, show (6148914691236517205 : Int) = ((6148914691236517205 : Nat) : Int) from rfl, a1, a2, IntKind.wrap_u64]
  omega
theorem i2_nat (x : Nat) (h : x < 18446744073709551616) : i2 x = (p2 (rep 51 8) x : Int) ∧ p2 (rep 51 8) x ≤ 7378697629483820646 := by
  rw [rep51]
  have a1 := bits_and_u64_nat (x / 4) 3689348814741910323 (by omega) (by decide)
  have a2 := bits_and_u64_nat x 3689348814741910323 h (by decide)
  have b1 : x / 4 &&& 3689348814741910323 ≤ 3689348814741910323 := Nat.and_le_right
  have b2 : x &&& 3689348814741910323 ≤ 3689348814741910323 := Nat.and_le_right
  unfold i2 p2
  rw [show ((x : Int) / 4) = ((x / 4 : Nat) : Int) by omega, show (3689348814741910323 : Int) = ((3689348814741910323 : Nat) : Int) from rfl, a1, a2, IntKind.wrap_u64]
  omega
theorem i3_nat (x : Nat) (h : x ≤ 7378697629483820646) : i3 x = (p3 (rep 15 8) x : Int) := by
  rw [rep15]
  have a1 := bits_and_u64_nat (x / 16 + x) 1085102592571150095 (by omega) (by decide)
  unfold i3 p3
  rw [show IntKind.u64.wrap ((x : Int) / 16 + x) = ((x / 16 + x : Nat) : Int) by rw [IntKind.wrap_u64]; omega, show (1085102592571150095 : Int) = ((1085102592571150095 : Nat) : Int) from rfl, a1]
/-- bits.OnesCount64 counts the ones. -/
theorem ones_nat (x : Nat) (h : x < 18446744073709551616) : bits_OnesCount64.f x = some (onesCount x : Int) := by
  obtain ⟨e1, l1⟩ := i1_nat x h
  obtain ⟨e2, l2⟩ := i2_nat _ l1
  have e3 := i3_nat _ l2
  have h8 : x < 256 ^ 8 := Nat.lt_of_lt_of_eq h (by decide)
  have hs := (stages 8 x h8).2
  rw [ones_eq, e1, e2, e3, hs]
  clear e1 e2 e3 l1 l2 hs h8
  obtain ⟨u, hu⟩ : ∃ u, ones 8 x = u := ⟨_, rfl⟩
  obtain ⟨y, hy⟩ : ∃ y, u + u / 256 = y := ⟨_, rfl⟩
  obtain ⟨z, hz⟩ : ∃ z, y + y / 65536 = z := ⟨_, rfl⟩
  obtain ⟨t, ht⟩ : ∃ t, z + z / 4294967296 = t := ⟨_, rfl⟩
  obtain ⟨t1, t2, t3, t4⟩ := ones64 x u y z t hu hy hz ht
  rw [hu]
  clear hu
  have e4 : i4 u = (y : Int) := by unfold i4; rw [IntKind.wrap_u64]; clear t4 ht hz; omega
  rw [e4]
  have e5 : i5 y = (z : Int) := by unfold i5; rw [IntKind.wrap_u64]; clear t4 ht hy; omega
  rw [e5]
  have e6 : i6 z = (t : Int) := by unfold i6; rw [IntKind.wrap_u64]; clear t4 hz hy; omega
  rw [e6, i64_and127]
  clear hy hz ht e4 e5 e6 t2 t3
  congr 1
  unfold wrap64
  omega
theorem sickF_nat (M : List (Int × Kn)) (c : Int) (b k : Nat) (h : (knF M c).2.2 = (b : Int)) (hb : b < 18446744073709551616) : sickF M k c = decide (k ≤ onesCount b) := by
  unfold sickF
  rw [h, ones_nat b hb]
  simp
/-- What a watch knows of cluster 5 alone. -/
structure Well (n : Nat) (M : List (Int × Kn)) (at_ : Int) (b : Nat) : Prop where
  keys : M = [] ∨ M.map (·.1) = [5]
  last : (knF M 5).1 = at_
  bits : (knF M 5).2.2 = (b : Int)
  lt : b < 2 ^ n
  good : GoodM M
theorem Well.nil (n : Nat) : Well n [] 0 0 := ⟨.inl rfl, rfl, rfl, Nat.two_pow_pos n, GoodM.nil⟩
theorem Well.step {n : Nat} (h1 : 1 ≤ n) (h64 : n ≤ 64) {M : List (Int × Kn)} {a a2 : Int} {b : Nat} (h : Well n M a b) (ha : 0 ≤ a ∧ a < a2 ∧ a2 < 1099511627776) (good : Bool) :
    Well n (repF n M 5 a2 good) a2 (stp n b good) ∧ repOk M 5 a2 = true := by
  have hok : repOk M 5 a2 = true := by
    unfold repOk okF
    rw [h.last]
    simp
    omega
  have e : repF n M 5 a2 good = aput 5 (newK (knF M 5) n a2 good) M := by unfold repF; rw [hok]; rfl
  refine ⟨⟨?_, ?_, ?_, stp_lt h1 good, h.good.rep (by omega) (by omega) _ _ _⟩, hok⟩
  · rw [e, keys_put]
    rcases h.keys with h | h
    · subst h; exact .inr rfl
    · rw [h]; exact .inr rfl
  · rw [e, knF_put_same]; rfl
  · rw [e, knF_put_same, ← bitsF_nat b n h.lt h1 h64 good, ← h.bits]; rfl
end Go.Proofs.Ytnkpleggmiamdaa.He
