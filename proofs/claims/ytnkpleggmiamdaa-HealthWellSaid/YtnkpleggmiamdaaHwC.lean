/- HealthWell, walked. -/
import Derived.Test.YtnkpleggmiamdaaHwB
namespace Go.Proofs.Ytnkpleggmiamdaa.He
open Go.RowKit Go.Maps Go.Lib Go.Proofs.YtnkpleggmiamdaaW.PrintWords Go.Proofs.YtnkpleggmiamdaaW.PrintLast Go.Proofs.YtnkpleggmiamdaaW.PrintMore
open Go.Proofs.Ytnkpleggmiamdaa.PHealthApart Go.Proofs.Ytnkpleggmiamdaa.Mp Go.Proofs.Ytnkpleggmiamdaa.Ke
set_option linter.unusedVariables false
set_option linter.unusedSimpArgs false

theorem one_mod (x : Int) (m : Nat) (h1 : 1 ≤ m) (h2 : m ≤ 1000000) : ∃ n : Nat, wrap64 (1 + (wrap64 (x.tmod m + m)).tmod m) = (n : Int) ∧ 1 ≤ n ∧ n ≤ m := by
  have a := Int.tmod_lt_of_pos x (show (0 : Int) < m by omega)
  have b := Int.lt_tmod_of_pos x (show (0 : Int) < m by omega)
  have e : wrap64 (x.tmod m + m) = x.tmod m + m := by unfold wrap64; omega
  rw [e]
  have c := Int.tmod_nonneg (a := x.tmod m + m) (b := m) (by omega)
  have d := Int.tmod_lt_of_pos (x.tmod m + m) (show (0 : Int) < m by omega)
  generalize (x.tmod m + m).tmod m = y at c d
  refine ⟨(1 + y).toNat, by unfold wrap64; omega, by omega, by omega⟩
theorem Well.sicks {n : Nat} {M : List (Int × Kn)} {a : Int} {b : Nat} (h : Well n M a b) (k : Nat) (hs : sickF M k 5 = false) : sicksF M k = [] := by
  unfold sicksF asc
  rcases h.keys with h | h
  · subst h; simp
  · rw [h]
    simp [hs]
theorem Well.ok {n : Nat} {M : List (Int × Kn)} {a : Int} {b : Nat} (h : Well n M a b) : MapOk M := by
  rcases h.keys with h | h
  · subst h; exact ⟨fun x hx => (by cases hx), List.nodup_nil, Nat.zero_le _⟩
  · refine ⟨fun x hx => ?_, by rw [h]; simp, ?_⟩
    · have : x.1 ∈ M.map (·.1) := List.mem_map_of_mem hx
      rw [h] at this
      rw [List.mem_singleton.1 this]; decide +kernel
    · have := congrArg List.length h
      simp at this
      omega
theorem Well.b64 {n : Nat} (h64 : n ≤ 64) {M : List (Int × Kn)} {a : Int} {b : Nat} (h : Well n M a b) : b < 18446744073709551616 :=
  Nat.lt_of_lt_of_le h.lt (Nat.le_trans (Nat.pow_le_pow_right (by decide) h64) (by decide))
theorem Well.not_sick {n k : Nat} (h1 : 1 ≤ k) (hk : k ≤ n) (h64 : n ≤ 64) {M : List (Int × Kn)} {a : Int} {b : Nat} (h : Well n M a b) (hb : b % 2 ^ (n - k + 1) = 0) : sickF M k 5 = false := by
  rw [sickF_nat M 5 b k h.bits (h.b64 h64)]
  have := few h.lt hb (by omega) h64
  simp; omega
theorem Well.sick {n k : Nat} (hk : k ≤ n) (h64 : n ≤ 64) {M : List (Int × Kn)} {a : Int} {b : Nat} (h : Well n M a b) (hb : b % 2 ^ k = 2 ^ k - 1) : sickF M k 5 = true := by
  rw [sickF_nat M 5 b k h.bits (h.b64 h64)]
  have := many hb (by omega)
  simpa using this

set_option maxHeartbeats 2000000 in
set_option maxRecDepth 100000 in
theorem well_law_calls (a0 a1 : Int) (A : Option Addr) (c : Nat) (were : List Bool) (w : World) (hr : Kd.bool.C w A were.length were) (hc : were.length ≤ c) (w0 : (Lit.int .i64 a0).wf = true) (w1 : (Lit.int .i64 a1).wf = true) :
    Calls Try.prog 8 #[.int .i64 a0, .int .i64 a1, .slice A were.length c] w fun e w' => e = .returned (.bool true) ∧ Below w.heap.size w w' := by
  have HR := Aside0.mk hr
  have HC := Aside0.mk hc
  clear hr hc
  by_cases hlen : (200 : Int) < were.length
  · go_enter Try.func8, Try.ntmps8
    go_wp2_with fail
    refine (awake_calls _).mono ?_
    rintro e w1 ⟨rfl, hb⟩
    have HB1 := Aside0.mk hb
    clear hb
    go_wp2_with fail
    refine (awake_calls _).mono ?_
    rintro e w2 ⟨rfl, hb⟩
    have HB2 := Aside0.mk (HB1.out.trans (hb.mono HB1.out.size))
    clear hb
    go_wp2_with fail
    go_ret
    exact ⟨rfl, HB2.out⟩
  · obtain ⟨n, e0, b1, b2⟩ : ∃ n : Nat, wrap64 (1 + (wrap64 (a0.tmod 64 + 64)).tmod 64) = (n : Int) ∧ 1 ≤ n ∧ n ≤ 64 := one_mod a0 64 (by omega) (by omega)
    obtain ⟨k, e1, b3, b4⟩ := one_mod a1 n (by omega) (by omega)
    go_enter Try.func8, Try.ntmps8
    go_wp2_with fail
    refine (awake_calls _).mono ?_
    rintro e w1 ⟨rfl, hb⟩
    have HB1 := Aside0.mk hb
    clear hb
    go_wp2_with fail
    refine (new_ok n k w1 ⟨by omega, by omega, by omega, by omega⟩).mono ?_
    rintro e w2 ⟨p, bm, rfl, hp, hbm, W, hB⟩
    have WI := Aside0.mk W
    have HP := Aside0.mk (show w.heap.size ≤ p ∧ w.heap.size ≤ bm from ⟨Nat.le_trans HB1.out.size hp, Nat.le_trans HB1.out.size hbm⟩)
    have HB := Aside0.mk (HB1.out.trans (hB.mono HB1.out.size))
    have WE : Aside0 (Well n [] ((2 * 0 : Nat) : Int) 0) := ⟨Well.nil n⟩
    clear W hB HB1 hp hbm
    go_wp2_with fail
    clear e0 e1
    go_loopw [11, 12] (fun v11 v12 wr => ∃ (i : Nat) (M : List (Int × Kn)) (b : Nat), v11 = .int .i64 ((2 * i : Nat) : Int) ∧ v12 = .int .i64 i ∧ i ≤ were.length ∧ Aside0 (WatchIs wr p bm n k M) ∧ Aside0 (Well n M ((2 * i : Nat) : Int) b) ∧ Aside0 (Below w.heap.size w wr)) (fun _ v12 _ => were.length - (intOf v12).toNat)
    case atStart => exact ⟨0, [], 0, rfl, rfl, Nat.zero_le _, WI, WE, HB⟩
    case round =>
      clear WI WE HB
      obtain ⟨i, M, b, rfl, rfl, hi, WI, WE, HB⟩ := hrel
      by_cases hlt : i < were.length
      · have hlt' : (i : Int) < (were.length : Int) := by omega
        obtain ⟨ad, rfl, h0⟩ := Kd.at_bool (Kd.C_below HR.out HB.out) i (by omega) hlt'
        simp only [Int.toNat_natCast] at h0
        generalize rdOf false were i = good at h0
        go_wp2_with fail
        refine (report_calls p bm n k M 5 ((2 * (i + 1) : Nat) : Int) good _ WI.out (by omega) (by omega) (by decide +kernel) WE.out.good).mono ?_
        rintro e w3 ⟨rfl, W, hF⟩
        have WI2 := Aside0.mk W
        have WE2 := Aside0.mk (WE.out.step b1 b2 (a2 := ((2 * (i + 1) : Nat) : Int)) (by omega) good).1
        have HB2 := Aside0.mk (HB.out.trans (hF.to_below HP.out.2 HB.out.size))
        clear W hF WI HB WE h0
        go_wp2_with fail
        go_roundw
        case rel => exact ⟨i + 1, _, _, rfl, by go_num, by omega, WI2, WE2, HB2⟩
        case measure => simp [intOf]; omega
      · have hil : i = were.length := by omega
        have hi2 : 2 * i ≤ 400 := by omega
        have hnl : ¬ (i : Int) < (were.length : Int) := by omega
        clear hlt hil hi hlen
        generalize hT : 2 * i = T at WE hi2 ⊢
        clear hT
        have WE0 : Aside0 (Well n M ((T + 0 : Nat) : Int) b ∧ b % 2 ^ 0 = 0) := ⟨WE.out, by rw [Nat.pow_zero]; omega⟩
        go_wp2_with fail
        clear hnl
        go_loopw [11, 13] (fun v11 v13 wr => ∃ (j : Nat) (M : List (Int × Kn)) (b : Nat), v11 = .int .i64 ((T + j : Nat) : Int) ∧ v13 = .int .i64 j ∧ j ≤ n - k + 1 ∧ Aside0 (WatchIs wr p bm n k M) ∧ Aside0 (Well n M ((T + j : Nat) : Int) b ∧ b % 2 ^ j = 0) ∧ Aside0 (Below w.heap.size w wr)) (fun _ v13 _ => n - k + 1 - (intOf v13).toNat)
        case atStart => exact ⟨0, M, b, rfl, rfl, Nat.zero_le _, WI, WE0, HB⟩
        case round =>
          clear WI WE HB WE0
          obtain ⟨j, M, b, rfl, rfl, hj, WI, WE, HB⟩ := hrel
          by_cases hlt : j < n - k + 1
          · go_wp2_with fail
            refine (report_calls p bm n k M 5 ((T + (j + 1) : Nat) : Int) true _ WI.out (by omega) (by omega) (by decide +kernel) WE.out.1.good).mono ?_
            rintro e w3 ⟨rfl, W, hF⟩
            obtain ⟨hW1, hW2⟩ := WE.out.1.step b1 b2 (a2 := ((T + (j + 1) : Nat) : Int)) (by omega) true
            rw [hW2]
            have WI2 := Aside0.mk W
            have WE2 := Aside0.mk (And.intro hW1 (stp_good (show j + 1 ≤ n by omega) WE.out.2))
            have HB2 := Aside0.mk (HB.out.trans (hF.to_below HP.out.2 HB.out.size))
            clear W hF WI HB WE hW1 hW2
            go_wp2_with fail
            go_roundw
            case rel => exact ⟨j + 1, _, _, rfl, by go_num, by omega, WI2, WE2, HB2⟩
            case measure => simp [intOf]; omega
          · obtain rfl : j = n - k + 1 := by omega
            have hns := WE.out.1.not_sick b3 b4 b2 WE.out.2
            go_wp2_with fail
            refine (sick_drew p bm n k M 5 _ WI.out).mono ?_
            rintro e w3 ⟨rfl, nd, hw3⟩
            rw [hns]
            have HB3 : Aside0 (Below w.heap.size w w3) := ⟨by rw [hw3]; exact pw_below_drewN HB.out nd⟩
            have WI3 : Aside0 (WatchIs w3 p bm n k M) := ⟨by rw [hw3]; exact WI.out.below (pw_below_drewN (Below.refl _ _) nd)⟩
            clear hw3 WI HB
            go_wp2_with fail
            refine (sicks_calls p bm n k M w3 WI3.out WE.out.1.ok).mono ?_
            rintro e w4 ⟨v, rfl, hR, hB⟩
            rw [WE.out.1.sicks k hns] at hR
            obtain ⟨A4, c4, rfl⟩ := Kd.R_slice hR
            have HB4 := Aside0.mk (HB3.out.trans (hB.mono HB3.out.size))
            have WI4 := Aside0.mk (WI3.out.below hB)
            clear hR hB WI3 HB3 hns
            have hT2 : T + (n - k + 1) ≤ 465 := by omega
            have WE0 : Aside0 (∃ b, Well n M ((T + (n - k + 1) + 0 : Nat) : Int) b ∧ b % 2 ^ 0 = 2 ^ 0 - 1) := ⟨b, WE.out.1, by rw [Nat.pow_zero]; omega⟩
            clear WE
            obtain ⟨S, hS⟩ : ∃ S, T + (n - k + 1) = S := ⟨_, rfl⟩
            rw [hS] at WE0 hT2
            go_wp2_with fail
            go_loopw [11, 14] (fun v11 v14 wr => ∃ (j : Nat) (M : List (Int × Kn)), v11 = .int .i64 ((S + j : Nat) : Int) ∧ v14 = .int .i64 j ∧ j ≤ k ∧ Aside0 (WatchIs wr p bm n k M) ∧ Aside0 (∃ b, Well n M ((S + j : Nat) : Int) b ∧ b % 2 ^ j = 2 ^ j - 1) ∧ Aside0 (Below w.heap.size w wr)) (fun _ v14 _ => k - (intOf v14).toNat)
            case atStart => exact ⟨0, M, by congr 1; omega, rfl, Nat.zero_le _, WI4, WE0, HB4⟩
            case round =>
              clear WI4 WE0 HB4 hS
              obtain ⟨j, M, rfl, rfl, hj, WI, WE, HB⟩ := hrel
              by_cases hlt : j < k
              · go_wp2_with fail
                refine (report_calls p bm n k M 5 ((S + (j + 1) : Nat) : Int) false _ WI.out (by omega) (by omega) (by decide +kernel) (by obtain ⟨b, h, _⟩ := WE.out; exact h.good)).mono ?_
                rintro e w3 ⟨rfl, W, hF⟩
                have WI2 := Aside0.mk W
                have WE2 : Aside0 (∃ b, Well n (repF n M 5 ((S + (j + 1) : Nat) : Int) false) ((S + (j + 1) : Nat) : Int) b ∧ b % 2 ^ (j + 1) = 2 ^ (j + 1) - 1) := ⟨by
                  obtain ⟨b, h, hb⟩ := WE.out
                  exact ⟨_, (h.step b1 b2 (by omega) false).1, stp_bad (by omega) hb⟩⟩
                have HB2 := Aside0.mk (HB.out.trans (hF.to_below HP.out.2 HB.out.size))
                clear W hF WI HB WE
                go_wp2_with fail
                go_roundw
                case rel => exact ⟨j + 1, _, rfl, by go_num, by omega, WI2, WE2, HB2⟩
                case measure => simp [intOf]; omega
              · obtain rfl : j = k := by omega
                obtain ⟨b, hW, hb⟩ := WE.out
                have hs := hW.sick b4 b2 hb
                have hl := hW.last
                have HL := Aside0.mk hl
                clear hl hW hb WE
                go_wp2_with fail
                refine (sick_drew p bm n j M 5 _ WI.out).mono ?_
                rintro e w3 ⟨rfl, nd, hw3⟩
                rw [hs]
                have HB3 : Aside0 (Below w.heap.size w w3) := ⟨by rw [hw3]; exact pw_below_drewN HB.out nd⟩
                have WI3 : Aside0 (WatchIs w3 p bm n j M) := ⟨by rw [hw3]; exact WI.out.below (pw_below_drewN (Below.refl _ _) nd)⟩
                clear hw3 WI HB hs
                go_wp2_with fail
                refine (last_calls p bm n j M 5 w3 WI3.out).mono ?_
                rintro e w4 ⟨rfl, rfl⟩
                rw [show ((alook 5 M).getD (0, 0, 0)).1 = ((S + j : Nat) : Int) from HL.out]
                go_wp2_with fail
                go_ret
                exact ⟨rfl, HB3.out⟩
end Go.Proofs.Ytnkpleggmiamdaa.He
