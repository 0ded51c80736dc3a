/- Kept of the text Mq2: what is reached (wip/tools/prune.py). -/
import Derived.Test.YtnkpleggmiamdaaVG5
import Derived.Test.YtnkpleggmiamdaaVPSessionParsesx1
namespace Go.Proofs.Ytnkpleggmiamdaa.PSessionParses
open Go.RowKit Go.Proofs.YtnkpleggmiamdaaW.PrintWords Go.Proofs.YtnkpleggmiamdaaW.PrintLast Go.Proofs.YtnkpleggmiamdaaW.PrintMore
attribute [local go_sem] max2_int min2_int max_two min_two max_three min_three max_four min_four   -- for this text's walks alone
set_option linter.unusedVariables false
set_option linter.unusedSimpArgs false
def echelonref01_number.l0 : Nat → List Int → Int → Int → Int → Int → Option (Int × Int × Int)
  | 0, _, _, _, _, _ => none
  | k + 1, x0, x1, x7, x8, x9 => if x9 < x7 then (if (wrap64 ((wrap64 (x1 + 1)) + x9)) ≥ (x0.length : Int) then (some (0, x1, 11)) else (if x9 = 0 then (if 0 ≤ (wrap64 (x1 + 1)) then (if (wrap64 (x1 + 1)) < (x0.length : Int) then (if (rd x0 (wrap64 (x1 + 1))) = 0 then (some (0, x1, 13)) else (if 0 ≤ (wrap64 ((wrap64 (x1 + 1)) + x9)) then (if (wrap64 ((wrap64 (x1 + 1)) + x9)) < (x0.length : Int) then (echelonref01_number.l0 k x0 x1 x7 (IntKind.u64.wrap ((IntKind.u64.wrap (256 * x8)) + (IntKind.u64.wrap (rd x0 (wrap64 ((wrap64 (x1 + 1)) + x9)))))) (wrap64 (x9 + 1))) else (none)) else (none))) else (none)) else (none)) else (if 0 ≤ (wrap64 ((wrap64 (x1 + 1)) + x9)) then (if (wrap64 ((wrap64 (x1 + 1)) + x9)) < (x0.length : Int) then (echelonref01_number.l0 k x0 x1 x7 (IntKind.u64.wrap ((IntKind.u64.wrap (256 * x8)) + (IntKind.u64.wrap (rd x0 (wrap64 ((wrap64 (x1 + 1)) + x9)))))) (wrap64 (x9 + 1))) else (none)) else (none)))) else (some (x8, wrap64 ((wrap64 (x1 + 1)) + x7), 0))
def echelonref01_number.f (k : Nat) (l0 : List Int) (a1 : Int) : Option (Int × Int × Int) := if a1 ≥ (l0.length : Int) then (some (0, a1, 11)) else (if 0 ≤ a1 then (if a1 < (l0.length : Int) then (if (wrap64 (rd l0 a1)) > 8 then (some (0, a1, 13)) else (echelonref01_number.l0 k l0 a1 (wrap64 (rd l0 a1)) 0 0)) else (none)) else (none))
theorem echelonref01_number.mono_l : ∀ k, (∀ y0 y1 y2 y3 y4, LeO (echelonref01_number.l0 k y0 y1 y2 y3 y4) (echelonref01_number.l0 (k + 1) y0 y1 y2 y3 y4))
  | 0 => fun _ _ _ _ _ r h => by simp [echelonref01_number.l0] at h
  | k + 1 => by
    have ih0 := echelonref01_number.mono_l k
    · intro y0 y1 y2 y3 y4
      unfold echelonref01_number.l0
      repeat' first
      | (with_reducible exact ih0 _ _ _ _ _)
      | (with_reducible exact LeO.refl _)
      | (with_reducible exact LeO.none _)
      | (with_reducible refine LeO.ite ?_ ?_)
      | (with_reducible refine LeO.bind ?_ (fun _ => ?_))
      | exact ih0 _ _ _ _ _
      | exact LeO.none _
      | refine LeO.ite ?_ ?_
      | refine LeO.bind ?_ (fun _ => ?_)
theorem echelonref01_number.mono : ∀ a0 a1 k, LeO (echelonref01_number.f k a0 a1) (echelonref01_number.f (k + 1) a0 a1) := by
  intro a0 a1 k
  have ih0 := echelonref01_number.mono_l k
  unfold echelonref01_number.f
  repeat' first
      | (with_reducible exact ih0 _ _ _ _ _)
      | (with_reducible exact LeO.refl _)
      | (with_reducible exact LeO.none _)
      | (with_reducible refine LeO.ite ?_ ?_)
      | (with_reducible refine LeO.bind ?_ (fun _ => ?_))
      | exact ih0 _ _ _ _ _
      | exact LeO.none _
      | refine LeO.ite ?_ ?_
      | refine LeO.bind ?_ (fun _ => ?_)
set_option maxHeartbeats 8000000 in
set_option maxRecDepth 100000 in
theorem echelonref01_number.calls (k : Nat) (A0 : Option Addr) (c0 : Nat) (l0 : List Int) (a1 : Int) (r1 : Int) (r2 : Int) (r3 : Int) (w : World) (hr0 : Kd.C (Kd.int .u8) w A0 l0.length l0) (hc0 : l0.length ≤ c0) (h : echelonref01_number.f k l0 a1 = some (r1, r2, r3)) :
    Calls Try.prog 83 #[.slice A0 l0.length c0, .int .i64 a1] w fun e w' => e = .returned (.tuple #[.int .u64 r1, .int .i64 r2, .int .i64 r3]) ∧ Drawn0 w w' := by
  have HR0 := Aside0.mk hr0
  have HC0 := Aside0.mk hc0
  clear hr0 hc0
  have H : (if a1 ≥ (l0.length : Int) then (some (0, a1, 11)) else (if 0 ≤ a1 then (if a1 < (l0.length : Int) then (if (wrap64 (rd l0 a1)) > 8 then (some (0, a1, 13)) else (echelonref01_number.l0 k l0 a1 (wrap64 (rd l0 a1)) 0 0)) else (none)) else (none))) = some (r1, r2, r3) := h
  clear h
  by_cases c3 : a1 ≥ (l0.length : Int)
  · rw [if_pos c3] at H
    have c3b0 : decide ((l0.length : Int) ≤ a1) = true := decide_eq_true c3
    clear c3
    simp only [Option.some.injEq, Prod.mk.injEq] at H
    obtain ⟨rfl, rfl, rfl⟩ := H
    go_enter Try.func83, Try.ntmps83
    go_wp2
    go_ret3
    exact ⟨by first | rfl | (simp; done) | (simp [*]; done), by repeat (first | exact Drawn0.refl _ | apply Drawn0.step)⟩
  · rw [if_neg c3] at H
    have c3b0 : decide ((l0.length : Int) ≤ a1) = false := decide_eq_false c3
    clear c3
    by_cases c4 : 0 ≤ a1
    · rw [if_pos c4] at H
      have c4b0 : decide (0 ≤ a1) = true := decide_eq_true c4
      clear c4
      by_cases c5 : a1 < (l0.length : Int)
      · rw [if_pos c5] at H
        have c5b0 : decide (a1 < (l0.length : Int)) = true := decide_eq_true c5
        clear c5
        by_cases c6 : (wrap64 (rd l0 a1)) > 8
        · rw [if_pos c6] at H
          have c6b0 : decide (8 < (wrap64 (rd l0 a1))) = true := decide_eq_true c6
          clear c6
          simp only [Option.some.injEq, Prod.mk.injEq] at H
          obtain ⟨rfl, rfl, rfl⟩ := H
          have p113 : 0 ≤ (a1 : Int) := of_decide_eq_true (by first | (with_reducible assumption) | assumption)
          have q113 : a1 < (l0.length : Int) := of_decide_eq_true (by first | (with_reducible assumption) | assumption)
          obtain ⟨ad113, e113, hx113_0⟩ := Kd.at_int HR0.out a1 p113 q113
          cases e113
          replace p113 := eq_true p113
          replace q113 := eq_true q113
          go_enter Try.func83, Try.ntmps83
          go_wp2
          go_ret3
          exact ⟨by first | rfl | (simp; done) | (simp [*]; done), by repeat (first | exact Drawn0.refl _ | apply Drawn0.step)⟩
        · rw [if_neg c6] at H
          have c6b0 : decide (8 < (wrap64 (rd l0 a1))) = false := decide_eq_false c6
          clear c6
          have H' := Aside0.mk H
          clear H
          have p113 : 0 ≤ (a1 : Int) := of_decide_eq_true (by first | (with_reducible assumption) | assumption)
          have q113 : a1 < (l0.length : Int) := of_decide_eq_true (by first | (with_reducible assumption) | assumption)
          obtain ⟨ad113, e113, hx113_0⟩ := Kd.at_int HR0.out a1 p113 q113
          cases e113
          replace p113 := eq_true p113
          replace q113 := eq_true q113
          go_enter Try.func83, Try.ntmps83
          go_wp2
          go_loopg [8, 9] k (fun kq v8 v9 w' => ∃ (x8_1 : Int) (x9_1 : Int), v8 = .int .u64 x8_1 ∧ v9 = .int .i64 x9_1 ∧ Aside0 (echelonref01_number.l0 kq l0 a1 (wrap64 (rd l0 a1)) x8_1 x9_1 = some (r1, r2, r3)) ∧ Aside0 (kq ≤ k) ∧ Drawn0 w w')
          case atStart => exact ⟨(0), (0), (by first | rfl | (simp; done) | (simp [*]; done)), (by first | rfl | (simp; done) | (simp [*]; done)), H', ⟨Nat.le_refl _⟩, by repeat (first | exact Drawn0.refl _ | apply Drawn0.step)⟩
          case round =>
            clear H'
            try clear p1
            try clear q1
            try clear hx1
            try clear p2
            try clear c3
            try clear c3b0
            try clear c4
            try clear c4b0
            try clear c5
            try clear c5b0
            try clear c6
            try clear c6b0
            try clear p6
            try clear hx113_0
            try clear p113
            try clear q113
            obtain ⟨x8_1, x9_1, rfl, rfl, HA, HK1, ⟨m1, rfl⟩⟩ := hrel
            cases gk with
            | zero => exact absurd HA.out (by simp [echelonref01_number.l0])
            | succ k1 =>
              have H := HA.out
              clear HA
              simp only [echelonref01_number.l0] at H
              by_cases c7 : x9_1 < (wrap64 (rd l0 a1))
              · rw [if_pos c7] at H
                have c7b0 : decide (x9_1 < (wrap64 (rd l0 a1))) = true := decide_eq_true c7
                clear c7
                by_cases c8 : (wrap64 ((wrap64 (a1 + 1)) + x9_1)) ≥ (l0.length : Int)
                · rw [if_pos c8] at H
                  have c8b0 : decide ((l0.length : Int) ≤ (wrap64 ((wrap64 (a1 + 1)) + x9_1))) = true := decide_eq_true c8
                  clear c8
                  simp only [Option.some.injEq, Prod.mk.injEq] at H
                  obtain ⟨rfl, rfl, rfl⟩ := H
                  go_wp2
                  go_ret3
                  exact ⟨by first | rfl | (simp; done) | (simp [*]; done), by repeat (first | exact Drawn0.refl _ | apply Drawn0.step)⟩
                · rw [if_neg c8] at H
                  have c8b0 : decide ((l0.length : Int) ≤ (wrap64 ((wrap64 (a1 + 1)) + x9_1))) = false := decide_eq_false c8
                  clear c8
                  by_cases c9 : x9_1 = 0
                  · rw [if_pos c9] at H
                    have c9b0 : (x9_1 == 0) = true := beq_iff_eq.mpr c9
                    have c9b1 : (x9_1 != 0) = false := bne_eq_false_iff_eq.mpr c9
                    clear c9
                    obtain ⟨ji10, hji10⟩ : ∃ j_ : Int, (wrap64 (a1 + 1)) = j_ := ⟨_, rfl⟩
                    replace H : (if 0 ≤ (ji10) then (if (ji10) < (l0.length : Int) then (if (rd l0 (ji10)) = 0 then (some (0, a1, 13)) else (if 0 ≤ (wrap64 ((ji10) + x9_1)) then (if (wrap64 ((ji10) + x9_1)) < (l0.length : Int) then (echelonref01_number.l0 k1 l0 a1 (wrap64 (rd l0 a1)) (IntKind.u64.wrap ((IntKind.u64.wrap (256 * x8_1)) + (IntKind.u64.wrap (rd l0 (wrap64 ((ji10) + x9_1)))))) (wrap64 (x9_1 + 1))) else (none)) else (none))) else (none)) else (none)) = some (r1, r2, r3) := by first | (rw [hji10] at H; exact H) | (simp only [hji10] at H ⊢; exact H)
                    (try rw [hji10] at c8b0)
                    have hji10w : (IntKind.i64.wrap (a1 + 1)) = ji10 := (i64_w _).trans hji10
                    (try rw [hji10] at c8b0)
                    by_cases c11 : 0 ≤ (ji10)
                    · rw [if_pos c11] at H
                      have c11b0 : decide (0 ≤ (ji10)) = true := decide_eq_true c11
                      clear c11
                      by_cases c12 : (ji10) < (l0.length : Int)
                      · rw [if_pos c12] at H
                        have c12b0 : decide ((ji10) < (l0.length : Int)) = true := decide_eq_true c12
                        clear c12
                        by_cases c13 : (rd l0 (ji10)) = 0
                        · rw [if_pos c13] at H
                          have c13b0 : ((rd l0 (ji10)) == 0) = true := beq_iff_eq.mpr c13
                          have c13b1 : ((rd l0 (ji10)) != 0) = false := bne_eq_false_iff_eq.mpr c13
                          clear c13
                          simp only [Option.some.injEq, Prod.mk.injEq] at H
                          obtain ⟨rfl, rfl, rfl⟩ := H
                          have p114 : 0 ≤ ((ji10) : Int) := of_decide_eq_true (by first | (with_reducible assumption) | assumption)
                          have q114 : (ji10) < (l0.length : Int) := of_decide_eq_true (by first | (with_reducible assumption) | assumption)
                          obtain ⟨ad114, e114, hx114_0⟩ := Kd.at_int HR0.out (ji10) p114 q114
                          obtain rfl : ad113 = ad114 := (by injection e114)
                          replace p114 := eq_true p114
                          replace q114 := eq_true q114
                          go_wp2
                          go_ret3
                          exact ⟨by first | rfl | (simp; done) | (simp only [← hji10] <;> (first | rfl | simp)) | (simp [*]; done), by repeat (first | exact Drawn0.refl _ | apply Drawn0.step)⟩
                        · rw [if_neg c13] at H
                          have c13b0 : ((rd l0 (ji10)) == 0) = false := beq_eq_false_iff_ne.mpr c13
                          have c13b1 : ((rd l0 (ji10)) != 0) = true := bne_iff_ne.mpr c13
                          obtain ⟨ji14, hji14⟩ : ∃ j_ : Int, (wrap64 ((ji10) + x9_1)) = j_ := ⟨_, rfl⟩
                          replace H : (if 0 ≤ (ji14) then (if (ji14) < (l0.length : Int) then (echelonref01_number.l0 k1 l0 a1 (wrap64 (rd l0 a1)) (IntKind.u64.wrap ((IntKind.u64.wrap (256 * x8_1)) + (IntKind.u64.wrap (rd l0 (ji14))))) (wrap64 (x9_1 + 1))) else (none)) else (none)) = some (r1, r2, r3) := by first | (rw [hji14] at H; exact H) | (simp only [hji14] at H ⊢; exact H)
                          have hji14w : (IntKind.i64.wrap ((ji10) + x9_1)) = ji14 := (i64_w _).trans hji14
                          (try rw [hji14] at c8b0)
                          by_cases c15 : 0 ≤ (ji14)
                          · rw [if_pos c15] at H
                            have c15b0 : decide (0 ≤ (ji14)) = true := decide_eq_true c15
                            clear c15
                            by_cases c16 : (ji14) < (l0.length : Int)
                            · rw [if_pos c16] at H
                              have c16b0 : decide ((ji14) < (l0.length : Int)) = true := decide_eq_true c16
                              clear c16
                              have H' := Aside0.mk H
                              clear H
                              have p114 : 0 ≤ ((ji10) : Int) := of_decide_eq_true (by first | (with_reducible assumption) | assumption)
                              have q114 : (ji10) < (l0.length : Int) := of_decide_eq_true (by first | (with_reducible assumption) | assumption)
                              obtain ⟨ad114, e114, hx114_0⟩ := Kd.at_int HR0.out (ji10) p114 q114
                              obtain rfl : ad113 = ad114 := (by injection e114)
                              replace p114 := eq_true p114
                              replace q114 := eq_true q114
                              have p115 : 0 ≤ ((ji14) : Int) := of_decide_eq_true (by first | (with_reducible assumption) | assumption)
                              have q115 : (ji14) < (l0.length : Int) := of_decide_eq_true (by first | (with_reducible assumption) | assumption)
                              obtain ⟨ad115, e115, hx115_0⟩ := Kd.at_int HR0.out (ji14) p115 q115
                              obtain rfl : ad113 = ad115 := (by injection e115)
                              replace p115 := eq_true p115
                              replace q115 := eq_true q115
                              go_wp2
                              go_roundg k1
                              case measure => have := HK1.out; omega
                              case rel => exact ⟨(IntKind.u64.wrap ((IntKind.u64.wrap (256 * x8_1)) + (IntKind.u64.wrap (rd l0 (ji14))))), (wrap64 (x9_1 + 1)), (by first | rfl | (simp; done) | (simp only [← hji14] <;> (first | rfl | simp)) | (simp [*]; done)), (by first | rfl | (simp; done) | (simp [*]; done)), H', ⟨by have := HK1.out; omega⟩, by repeat (first | exact Drawn0.refl _ | apply Drawn0.step)⟩
                            · rw [if_neg c16] at H
                              exact absurd H (by simp)
                          · rw [if_neg c15] at H
                            exact absurd H (by simp)
                      · rw [if_neg c12] at H
                        exact absurd H (by simp)
                    · rw [if_neg c11] at H
                      exact absurd H (by simp)
                  · rw [if_neg c9] at H
                    have c9b0 : (x9_1 == 0) = false := beq_eq_false_iff_ne.mpr c9
                    have c9b1 : (x9_1 != 0) = true := bne_iff_ne.mpr c9
                    obtain ⟨ji17, hji17⟩ : ∃ j_ : Int, (wrap64 ((wrap64 (a1 + 1)) + x9_1)) = j_ := ⟨_, rfl⟩
                    replace H : (if 0 ≤ (ji17) then (if (ji17) < (l0.length : Int) then (echelonref01_number.l0 k1 l0 a1 (wrap64 (rd l0 a1)) (IntKind.u64.wrap ((IntKind.u64.wrap (256 * x8_1)) + (IntKind.u64.wrap (rd l0 (ji17))))) (wrap64 (x9_1 + 1))) else (none)) else (none)) = some (r1, r2, r3) := by first | (rw [hji17] at H; exact H) | (simp only [hji17] at H ⊢; exact H)
                    (try rw [hji17] at c8b0)
                    have hji17w : (IntKind.i64.wrap ((wrap64 (a1 + 1)) + x9_1)) = ji17 := (i64_w _).trans hji17
                    (try rw [hji17] at c8b0)
                    by_cases c18 : 0 ≤ (ji17)
                    · rw [if_pos c18] at H
                      have c18b0 : decide (0 ≤ (ji17)) = true := decide_eq_true c18
                      clear c18
                      by_cases c19 : (ji17) < (l0.length : Int)
                      · rw [if_pos c19] at H
                        have c19b0 : decide ((ji17) < (l0.length : Int)) = true := decide_eq_true c19
                        clear c19
                        have H' := Aside0.mk H
                        clear H
                        have p116 : 0 ≤ ((ji17) : Int) := of_decide_eq_true (by first | (with_reducible assumption) | assumption)
                        have q116 : (ji17) < (l0.length : Int) := of_decide_eq_true (by first | (with_reducible assumption) | assumption)
                        obtain ⟨ad116, e116, hx116_0⟩ := Kd.at_int HR0.out (ji17) p116 q116
                        obtain rfl : ad113 = ad116 := (by injection e116)
                        replace p116 := eq_true p116
                        replace q116 := eq_true q116
                        go_wp2
                        go_roundg k1
                        case measure => have := HK1.out; omega
                        case rel => exact ⟨(IntKind.u64.wrap ((IntKind.u64.wrap (256 * x8_1)) + (IntKind.u64.wrap (rd l0 (ji17))))), (wrap64 (x9_1 + 1)), (by first | rfl | (simp; done) | (simp only [← hji17] <;> (first | rfl | simp)) | (simp [*]; done)), (by first | rfl | (simp; done) | (simp [*]; done)), H', ⟨by have := HK1.out; omega⟩, by repeat (first | exact Drawn0.refl _ | apply Drawn0.step)⟩
                      · rw [if_neg c19] at H
                        exact absurd H (by simp)
                    · rw [if_neg c18] at H
                      exact absurd H (by simp)
              · rw [if_neg c7] at H
                have c7b0 : decide (x9_1 < (wrap64 (rd l0 a1))) = false := decide_eq_false c7
                clear c7
                simp only [Option.some.injEq, Prod.mk.injEq] at H
                obtain ⟨rfl, rfl, rfl⟩ := H
                go_wp2
                go_ret3
                exact ⟨by first | rfl | (simp; done) | (simp [*]; done), by repeat (first | exact Drawn0.refl _ | apply Drawn0.step)⟩
      · rw [if_neg c5] at H
        exact absurd H (by simp)
    · rw [if_neg c4] at H
      exact absurd H (by simp)
mutual
def echelonref01_Some.l0 : Nat → List ByteArray → Int → Option (Bool)
  | 0, _, _ => none
  | k + 1, x3, x4 => if x4 < (x3.length : Int) then (if 0 ≤ x4 then ((echelonref01_Some.f k (rdOf ByteArray.empty x3 x4)).bind fun t121 => (if t121 = true then (some true) else (echelonref01_Some.l0 k x3 (wrap64 (x4 + 1))))) else (none)) else (some false)
def echelonref01_Some.f : Nat → ByteArray → Option (Bool)
  | 0, _ => none
  | k + 1, a0 => if 0 < (a0.size : Int) then (if (bt a0 0) = 91 then ((echelonref01_rows.f k a0).bind fun t117 => (echelonref01_Some.l0 k t117 0)) else (some true)) else (none)
end
theorem echelonref01_Some.mono_l : ∀ k, (∀ y0, LeO (echelonref01_Some.f k y0) (echelonref01_Some.f (k + 1) y0)) ∧ (∀ y0 y1, LeO (echelonref01_Some.l0 k y0 y1) (echelonref01_Some.l0 (k + 1) y0 y1))
  | 0 => ⟨fun _ r h => by simp [echelonref01_Some.f] at h, fun _ _ r h => by simp [echelonref01_Some.l0] at h⟩
  | k + 1 => by
    obtain ⟨ih0, ih1⟩ := echelonref01_Some.mono_l k
    refine ⟨?_, ?_⟩
    · intro y0
      unfold echelonref01_Some.f
      repeat' first
      | (with_reducible exact ih0 _)
      | (with_reducible exact ih1 _ _)
      | (with_reducible exact echelonref01_rows.mono _ _)
      | (with_reducible exact LeO.refl _)
      | (with_reducible exact LeO.none _)
      | (with_reducible refine LeO.ite ?_ ?_)
      | (with_reducible refine LeO.bind ?_ (fun _ => ?_))
      | exact ih0 _
      | exact ih1 _ _
      | exact echelonref01_rows.mono _ _
      | exact LeO.none _
      | refine LeO.ite ?_ ?_
      | refine LeO.bind ?_ (fun _ => ?_)
    · intro y0 y1
      unfold echelonref01_Some.l0
      repeat' first
      | (with_reducible exact ih0 _)
      | (with_reducible exact ih1 _ _)
      | (with_reducible exact echelonref01_rows.mono _ _)
      | (with_reducible exact LeO.refl _)
      | (with_reducible exact LeO.none _)
      | (with_reducible refine LeO.ite ?_ ?_)
      | (with_reducible refine LeO.bind ?_ (fun _ => ?_))
      | exact ih0 _
      | exact ih1 _ _
      | exact echelonref01_rows.mono _ _
      | exact LeO.none _
      | refine LeO.ite ?_ ?_
      | refine LeO.bind ?_ (fun _ => ?_)
theorem echelonref01_Some.mono : ∀ a0 k, LeO (echelonref01_Some.f k a0) (echelonref01_Some.f (k + 1) a0) := by
  intro a0 k
  obtain ⟨ih0, ih1⟩ := echelonref01_Some.mono_l k
  exact ih0 a0
set_option maxHeartbeats 8000000 in
set_option maxRecDepth 100000 in
theorem echelonref01_Some.calls (k : Nat) : ∀ (a0 : ByteArray) (r : Bool) (w : World) (h : echelonref01_Some.f k a0 = some r),
    Calls Try.prog 84 #[.string a0] w fun e w' => e = .returned (.bool r) ∧ Below w.heap.size w w' := by
  induction k using Nat.strongRecOn with
  | _ k ih =>
  intro a0 r w h
  cases k with
  | zero => exact absurd h (by simp [echelonref01_Some.f])
  | succ k =>
  simp only [echelonref01_Some.f] at h
  have HB := Aside0.mk (Below.refl w.heap.size w)
  have H : (if 0 < (a0.size : Int) then (if (bt a0 0) = 91 then ((echelonref01_rows.f k a0).bind fun t117 => (echelonref01_Some.l0 k t117 0)) else (some true)) else (none)) = some r := h
  clear h
  by_cases c2 : 0 < (a0.size : Int)
  · rw [if_pos c2] at H
    have c2b0 : decide (0 < (a0.size : Int)) = true := decide_eq_true c2
    have c2b1 : decide (0 < a0.size) = true := decide_eq_true (by omega)
    clear c2
    by_cases c4 : (bt a0 0) = 91
    · rw [if_pos c4] at H
      have c4b0 : ((bt a0 0) == 91) = true := beq_iff_eq.mpr c4
      have c4b1 : ((bt a0 0) != 91) = false := bne_eq_false_iff_eq.mpr c4
      clear c4
      replace H := Option.bind_eq_some_iff.mp H
      obtain ⟨t117, A50, H⟩ := H
      replace H : (echelonref01_Some.l0 k t117 0) = some r := H
      have A5 := Aside0.mk A50
      clear A50
      have H' := Aside0.mk H
      clear H
      have p3 : 0 ≤ (0 : Int) := (by omega)
      have q3 : 0 < a0.size := (by have : (0 : Int) < (a0.size : Int) := of_decide_eq_true (by first | (with_reducible assumption) | assumption); omega)
      have hx3 : ∀ h : 0 < a0.size, ((a0[0]'h).toNat : Int) = bt a0 0 := bt_at a0 0
      clear p3
      have qi3 : (0 < (a0.size : Int)) = True := eq_true (of_decide_eq_true (by first | (with_reducible assumption) | assumption))
      replace q3 := eq_true q3
      go_enter Try.func84, Try.ntmps84
      go_wp2_with (first | ((with_reducible refine gate_callee (f := 82) rfl ?_); refine goesL_ (some 9) rfl rfl Try.func82 (by kernel_rfl) rfl #[.string a0] rfl (by (try simp only [List.map_toArray, List.map_cons, List.map_nil]); first | done | rfl | (simp only [List.length_drop, List.length_take]; rfl)) ?_; (with_reducible refine (echelonref01_rows.calls k a0 t117 _ A5.out).mono ?_); rintro e w6 ⟨v118, rfl, ho0, hb⟩; refine ⟨_, rfl, ?_⟩; have n0_ := Aside0.mk (Kd.R_lower ho0 (below_size (by repeat (first | (with_reducible first | exact HB.out | apply below_alloc | apply pw_below_drewN | apply below_drew1) | exact HB.out)))); have n1_ := Aside0.mk (below_step (by repeat (first | (with_reducible first | exact HB.out | apply below_alloc | apply pw_below_drewN | apply below_drew1) | exact HB.out)) hb); clear HB; have HO119 := n0_; have HB := n1_; clear n0_ n1_; (try clear hb); (try clear hb2); (try clear hk); (try clear hi); (try clear ho0)))
      go_loopg [4] k (fun kq v4 w' => ∃ (x4_1 : Int), v4 = .int .i64 x4_1 ∧ Aside0 (echelonref01_Some.l0 kq t117 x4_1 = some r) ∧ Aside0 (kq ≤ k) ∧ Aside0 (Kd.R Kd.string 9 w' w.heap.size (fun _ => True) v118 t117) ∧ Aside0 (Below w.heap.size w w'))
      case atStart => exact ⟨(0), (by first | rfl | (simp; done) | (simp [*]; done)), H', ⟨Nat.le_refl _⟩, ⟨by (with_reducible repeat (first | apply Kd.R_alloc | apply Kd.R_drewN | apply Kd.R_drew)); exact HO119.out⟩, ⟨by repeat (first | (with_reducible first | exact HB.out | apply below_alloc | apply pw_below_drewN | apply below_drew1) | exact HB.out)⟩⟩
      case round =>
        clear H'
        try clear c2
        try clear c2b0
        try clear c2b1
        try clear p2
        try clear p3
        try clear q3
        try clear hx3
        try clear qi3
        try clear c4
        try clear c4b0
        try clear c4b1
        try clear p3
        try clear q3
        obtain ⟨x4_1, rfl, HA, HK1, HO_3, HB⟩ := hrel
        cases gk with
        | zero => exact absurd HA.out (by simp [echelonref01_Some.l0])
        | succ k1 =>
          have H := HA.out
          clear HA
          simp only [echelonref01_Some.l0] at H
          by_cases c7 : x4_1 < (t117.length : Int)
          · rw [if_pos c7] at H
            have c7b0 : decide (x4_1 < (t117.length : Int)) = true := decide_eq_true c7
            clear c7
            by_cases c8 : 0 ≤ x4_1
            · rw [if_pos c8] at H
              have c8b0 : decide (0 ≤ x4_1) = true := decide_eq_true c8
              clear c8
              replace H := Option.bind_eq_some_iff.mp H
              obtain ⟨t121, A90, H⟩ := H
              replace H : (if t121 = true then (some true) else (echelonref01_Some.l0 k1 t117 (wrap64 (x4_1 + 1)))) = some r := H
              have A9 := Aside0.mk A90
              clear A90
              by_cases c10 : t121 = true
              · subst c10
                have H1 : (some true) = some r := by rw [if_pos rfl] at H; exact H
                clear H
                have H := H1
                clear H1
                obtain rfl := Option.some.inj H
                obtain ⟨Ao11, co11, eo11⟩ := Kd.R_slice HO_3.out
                subst eo11
                have p120 : 0 ≤ (x4_1 : Int) := of_decide_eq_true (by first | (with_reducible assumption) | assumption)
                have q120 : x4_1 < (t117.length : Int) := of_decide_eq_true (by first | (with_reducible assumption) | assumption)
                obtain ⟨ad120, e120, hx120_0⟩ := Kd.at_string (Kd.R_reads' HO_3.out).2.2 x4_1 p120 q120
                cases e120
                replace p120 := eq_true p120
                replace q120 := eq_true q120
                go_wp2_with (first | ((with_reducible refine gate_callee (f := 84) rfl ?_); refine goesL_ (some 20) rfl rfl Try.func84 (by kernel_rfl) rfl #[.string (rdOf ByteArray.empty t117 x4_1)] rfl (by (try simp only [List.map_toArray, List.map_cons, List.map_nil]); first | done | rfl | (simp only [List.length_drop, List.length_take]; rfl)) ?_; (with_reducible refine (ih k1 (by have := HK1.out; omega) (rdOf ByteArray.empty t117 x4_1) true _ A9.out).mono ?_); rintro e w12 ⟨rfl, hb⟩; refine ⟨_, rfl, ?_⟩; have n0_ := Aside0.mk (Kd.R_below (by (with_reducible repeat (first | apply Kd.R_alloc | apply Kd.R_drewN | apply Kd.R_drew)); exact HO_3.out) hb); have n1_ := Aside0.mk (below_step (by repeat (first | (with_reducible first | exact HB.out | apply below_alloc | apply pw_below_drewN | apply below_drew1) | exact HB.out)) hb); clear HO_3; clear HB; have HO_3 := n0_; have HB := n1_; clear n0_ n1_; (try clear hb); (try clear hb2); (try clear hk); (try clear hi)))
                go_ret
                exact ⟨by first | rfl | (simp [errW_none, errW_some] <;> rfl) | (simp [*, errW_none, errW_some] <;> rfl), by repeat (first | (with_reducible first | exact HB.out | apply below_alloc | apply pw_below_drewN | apply below_drew1) | exact HB.out)⟩
              · replace c10 := Bool.eq_false_iff.mpr c10
                subst c10
                have H1 : (echelonref01_Some.l0 k1 t117 (wrap64 (x4_1 + 1))) = some r := by rw [if_neg (show ¬ (false = true) by decide)] at H; exact H
                clear H
                have H := H1
                clear H1
                have H' := Aside0.mk H
                clear H
                obtain ⟨Ao13, co13, eo13⟩ := Kd.R_slice HO_3.out
                subst eo13
                have p120 : 0 ≤ (x4_1 : Int) := of_decide_eq_true (by first | (with_reducible assumption) | assumption)
                have q120 : x4_1 < (t117.length : Int) := of_decide_eq_true (by first | (with_reducible assumption) | assumption)
                obtain ⟨ad120, e120, hx120_0⟩ := Kd.at_string (Kd.R_reads' HO_3.out).2.2 x4_1 p120 q120
                cases e120
                replace p120 := eq_true p120
                replace q120 := eq_true q120
                go_wp2_with (first | ((with_reducible refine gate_callee (f := 84) rfl ?_); refine goesL_ (some 20) rfl rfl Try.func84 (by kernel_rfl) rfl #[.string (rdOf ByteArray.empty t117 x4_1)] rfl (by (try simp only [List.map_toArray, List.map_cons, List.map_nil]); first | done | rfl | (simp only [List.length_drop, List.length_take]; rfl)) ?_; (with_reducible refine (ih k1 (by have := HK1.out; omega) (rdOf ByteArray.empty t117 x4_1) false _ A9.out).mono ?_); rintro e w14 ⟨rfl, hb⟩; refine ⟨_, rfl, ?_⟩; have n0_ := Aside0.mk (Kd.R_below (by (with_reducible repeat (first | apply Kd.R_alloc | apply Kd.R_drewN | apply Kd.R_drew)); exact HO_3.out) hb); have n1_ := Aside0.mk (below_step (by repeat (first | (with_reducible first | exact HB.out | apply below_alloc | apply pw_below_drewN | apply below_drew1) | exact HB.out)) hb); clear HO_3; clear HB; have HO_3 := n0_; have HB := n1_; clear n0_ n1_; (try clear hb); (try clear hb2); (try clear hk); (try clear hi)))
                go_roundg k1
                case measure => have := HK1.out; omega
                case rel => exact ⟨(wrap64 (x4_1 + 1)), (by first | rfl | (simp; done) | (simp [*]; done)), H', ⟨by have := HK1.out; omega⟩, ⟨by (with_reducible repeat (first | apply Kd.R_alloc | apply Kd.R_drewN | apply Kd.R_drew)); exact HO_3.out⟩, ⟨by repeat (first | (with_reducible first | exact HB.out | apply below_alloc | apply pw_below_drewN | apply below_drew1) | exact HB.out)⟩⟩
            · rw [if_neg c8] at H
              exact absurd H (by simp)
          · rw [if_neg c7] at H
            have c7b0 : decide (x4_1 < (t117.length : Int)) = false := decide_eq_false c7
            clear c7
            obtain rfl := Option.some.inj H
            obtain ⟨Ao15, co15, eo15⟩ := Kd.R_slice HO_3.out
            subst eo15
            go_wp2
            go_ret
            exact ⟨by first | rfl | (simp [errW_none, errW_some] <;> rfl) | (simp [*, errW_none, errW_some] <;> rfl), by repeat (first | (with_reducible first | exact HB.out | apply below_alloc | apply pw_below_drewN | apply below_drew1) | exact HB.out)⟩
    · rw [if_neg c4] at H
      have c4b0 : ((bt a0 0) == 91) = false := beq_eq_false_iff_ne.mpr c4
      have c4b1 : ((bt a0 0) != 91) = true := bne_iff_ne.mpr c4
      obtain rfl := Option.some.inj H
      have p3 : 0 ≤ (0 : Int) := (by omega)
      have q3 : 0 < a0.size := (by have : (0 : Int) < (a0.size : Int) := of_decide_eq_true (by first | (with_reducible assumption) | assumption); omega)
      have hx3 : ∀ h : 0 < a0.size, ((a0[0]'h).toNat : Int) = bt a0 0 := bt_at a0 0
      clear p3
      have qi3 : (0 < (a0.size : Int)) = True := eq_true (of_decide_eq_true (by first | (with_reducible assumption) | assumption))
      replace q3 := eq_true q3
      go_enter Try.func84, Try.ntmps84
      go_wp2
      go_ret
      exact ⟨by first | rfl | (simp [errW_none, errW_some] <;> rfl) | (simp [*, errW_none, errW_some] <;> rfl), by repeat (first | (with_reducible first | exact HB.out | apply below_alloc | apply pw_below_drewN | apply below_drew1) | exact HB.out)⟩
  · rw [if_neg c2] at H
    exact absurd H (by simp)
end Go.Proofs.Ytnkpleggmiamdaa.PSessionParses
