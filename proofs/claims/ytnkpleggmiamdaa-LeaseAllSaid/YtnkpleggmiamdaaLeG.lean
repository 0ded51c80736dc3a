/- LeaseFull, walked. -/
import Derived.Test.YtnkpleggmiamdaaLeF
namespace Go.Proofs.Ytnkpleggmiamdaa.Le
open Go.RowKit Go.Maps Go.Proofs.YtnkpleggmiamdaaW.PrintWords Go.Proofs.YtnkpleggmiamdaaW.PrintLast Go.Proofs.YtnkpleggmiamdaaW.PrintMore
open Go.Proofs.Ytnkpleggmiamdaa.PLeaseFull Go.Proofs.Ytnkpleggmiamdaa.Mp
set_option linter.unusedVariables false
set_option linter.unusedSimpArgs false

theorem info3 : (Try.prog.info? 3).map (fun i => (i.zero, i.size, i.bytes)) = some (some (.int .i64 0), 1, 8) := by kernel_rfl
theorem bmod (y m : Int) (h1 : 0 < m) (h2 : m ≤ 1000000) : ∃ t, (wrap64 (y.tmod m + m)).tmod m = t ∧ 0 ≤ t ∧ t < m := by
  have a := Int.tmod_lt_of_pos y h1
  have b := Int.lt_tmod_of_pos y h1
  have e : wrap64 (y.tmod m + m) = y.tmod m + m := by unfold wrap64; omega
  exact ⟨_, rfl, by rw [e]; exact Int.tmod_nonneg _ (by omega), by rw [e]; exact Int.tmod_lt_of_pos _ h1⟩

theorem gF1 {N : Nat} {o : Int} (hN : 1 ≤ N ∧ N ≤ 200) (ho : 1 ≤ o ∧ o ≤ 1000) : grantE N [] o (csF (N + 1)) = 121 ∧ grantM N [] o (csF (N + 1)) = [] := by
  have h : grantE N [] o (csF (N + 1)) = 121 := by rw [grant_cs (by omega) (by omega), if_pos (by omega)]
  exact ⟨h, by unfold grantM; rw [h, if_neg (by decide)]⟩
theorem gF2 {N : Nat} {o : Int} (hN : 1 ≤ N ∧ N ≤ 200) (ho : 1 ≤ o ∧ o ≤ 1000) : grantE N [] o (csF N) = 0 ∧ grantM N [] o (csF N) = TN o N := by
  have h : grantE N [] o (csF N) = 0 := by rw [grant_cs (by omega) (by omega), if_neg (by omega)]
  exact ⟨h, by unfold grantM; rw [h, if_pos rfl]; rfl⟩
theorem not_mem {N : Nat} {o : Int} (hN : 1 ≤ N ∧ N ≤ 200) (ho : 1 ≤ o ∧ o ≤ 1000) : (3 * (N : Int)) ∉ (TN o N).map (·.1) := by
  rw [TN_keys]
  intro h
  obtain ⟨i, hi, e⟩ := mem_csF.1 h
  omega
theorem gF4 {N : Nat} {o : Int} (hN : 1 ≤ N ∧ N ≤ 200) (ho : 1 ≤ o ∧ o ≤ 1000) : grantE N (TN o N) (o + N) [3 * (N : Int)] = 121 ∧ grantM N (TN o N) (o + N) [3 * (N : Int)] = TN o N := by
  have h : grantE N (TN o N) (o + N) [3 * (N : Int)] = 121 := by
    rw [grant_one (by omega) (by omega) (get_none (not_mem hN ho)), TN_len, if_pos (by omega)]
  exact ⟨h, by unfold grantM; rw [h, if_neg (by decide)]⟩
theorem gF5 {N : Nat} {o : Int} (hN : 1 ≤ N ∧ N ≤ 200) (ho : 1 ≤ o ∧ o ≤ 1000) {k : Nat} (hk : k < N) : freeF [⟨3 * (k : Int), o + k + 1⟩] (TN o N) = (0, TN o N) := by
  unfold freeF
  rw [if_neg (by
    rintro ⟨_, h⟩
    have h : get (TN o N) (3 * (k : Int)) = o + k + 1 := h
    rw [TN_get o N k hk] at h
    omega)]
  rfl
theorem gF6 {N : Nat} {o : Int} (hN : 1 ≤ N ∧ N ≤ 200) (ho : 1 ≤ o ∧ o ≤ 1000) {k : Nat} (hk : k < N) : freeF [⟨3 * (k : Int), o + k⟩] (TN o N) = (1, adel (3 * (k : Int)) (TN o N)) := by
  unfold freeF
  rw [if_pos ⟨(show o + (k : Int) ≠ 0 by omega), TN_get o N k hk⟩]
  rfl
theorem del_len {N : Nat} {o : Int} (hN : 1 ≤ N ∧ N ≤ 200) (ho : 1 ≤ o ∧ o ≤ 1000) {k : Nat} (hk : k < N) : (adel (3 * (k : Int)) (TN o N)).length = N - 1 := by
  rw [length_del, TN_keys, if_pos (mem_csF.2 ⟨k, hk, rfl⟩), TN_len]
theorem gF7 {N : Nat} {o : Int} (hN : 1 ≤ N ∧ N ≤ 200) (ho : 1 ≤ o ∧ o ≤ 1000) {k : Nat} (hk : k < N) : grantE N (adel (3 * (k : Int)) (TN o N)) (o + N) [3 * (N : Int)] = 0 ∧ grantM N (adel (3 * (k : Int)) (TN o N)) (o + N) [3 * (N : Int)] = aput (3 * (N : Int)) (o + N) (adel (3 * (k : Int)) (TN o N)) := by
  have h : grantE N (adel (3 * (k : Int)) (TN o N)) (o + N) [3 * (N : Int)] = 0 := by
    rw [grant_one (by omega) (by omega) (by rw [get_del_other _ (by omega), get_none (not_mem hN ho)]), del_len hN ho hk, if_neg (by omega)]
  refine ⟨h, ?_⟩
  unfold grantM
  rw [h, if_pos rfl]
  show aput _ (o + N + ((0 : Nat) : Int)) _ = _
  rw [show o + (N : Int) + ((0 : Nat) : Int) = o + N by omega]
theorem gF8 {N : Nat} {o : Int} (hN : 1 ≤ N ∧ N ≤ 200) (ho : 1 ≤ o ∧ o ≤ 1000) {k : Nat} (hk : k < N) : get (aput (3 * (N : Int)) (o + N) (adel (3 * (k : Int)) (TN o N))) (3 * (N : Int)) = o + N ∧ get (aput (3 * (N : Int)) (o + N) (adel (3 * (k : Int)) (TN o N))) (3 * (k : Int)) = 0 := by
  refine ⟨get_put_same _ _ _, ?_⟩
  rw [get_put_other _ (by omega)]
  exact get_del_same (by rw [TN_keys]; exact csF_nodup N) _
theorem gF9 {N : Nat} {o : Int} (hN : 1 ≤ N ∧ N ≤ 200) (ho : 1 ≤ o ∧ o ≤ 1000) {k : Nat} (hk : k < N) (hok : TabOk (aput (3 * (N : Int)) (o + N) (adel (3 * (k : Int)) (TN o N)))) : freeF (allF (aput (3 * (N : Int)) (o + N) (adel (3 * (k : Int)) (TN o N)))) (aput (3 * (N : Int)) (o + N) (adel (3 * (k : Int)) (TN o N))) = (N, []) := by
  have hp : Pos (TN o N) := Pos.give ho.1 (fun x hx => by cases hx)
  rw [free_all hok ((hp.del _).put (by omega)), length_put, if_neg, del_len hN ho hk, show N - 1 + 1 = N by omega]
  rw [keys_del]
  exact fun h => not_mem hN ho (List.mem_of_mem_erase h)

set_option maxHeartbeats 2000000 in
set_option maxRecDepth 100000 in
theorem full_law_calls (a0 a1 a2 : Int) (w : World) (w0 : (Lit.int .i64 a0).wf = true) (w1 : (Lit.int .i64 a1).wf = true) (w2 : (Lit.int .i64 a2).wf = true) :
    Calls Try.prog 11 #[.int .i64 a0, .int .i64 a1, .int .i64 a2] w fun e w' => e = .returned (.bool true) ∧ Below w.heap.size w w' := by
  clear w0 w1 w2
  obtain ⟨t, et, t0, t1⟩ := bmod a0 200 (by omega) (by omega)
  obtain ⟨u, eu, u0, u1⟩ := bmod a1 1000 (by omega) (by omega)
  go_enter Try.func11, Try.ntmps11
  go_wp2_with fail
  refine (awake_calls _).mono ?_
  rintro e w1 ⟨rfl, hb⟩
  have HB1 := Aside0.mk hb
  clear hb
  go_wp2_with fail
  obtain ⟨N, hN⟩ : ∃ N : Nat, 1 + t = (N : Int) := ⟨(1 + t).toNat, by omega⟩
  have hN1 : 1 ≤ N := by omega
  have hN2 : N ≤ 200 := by omega
  rw [hN]
  clear hN et t0 t1
  obtain ⟨o, ho⟩ : ∃ o : Int, 1 + u = o := ⟨_, rfl⟩
  have ho1 : 1 ≤ o := by omega
  have ho2 : o ≤ 1000 := by omega
  rw [ho]
  clear ho eu u0 u1
  refine (new_in N w1 (by omega) w HB1.out).mono ?_
  rintro e w2 ⟨p, bm, rfl, h⟩
  have H2 := Aside0.mk h
  have HPB : Aside0 (bm < w2.heap.size) := ⟨h.bm_lt⟩
  clear h HB1
  go_wp2_with fail
  go_loopg [11, 12] (N + 1) (fun kq v11 v12 wr => ∃ c : Nat, v12 = .int .i64 c ∧ c + kq = N + 1 ∧ Aside0 (Kd.R (Kd.int .i64) 3 wr w2.heap.size (fun k => w2.heap.size ≤ k) v11 (csF c)) ∧ Aside0 (Below w2.heap.size w2 wr))
  case atStart => exact ⟨0, rfl, by omega, ⟨Kd.R_nil _ _ _ _ _⟩, ⟨Below.refl _ _⟩⟩
  case round =>
    obtain ⟨c, rfl, hc, HO, HB⟩ := hrel
    obtain ⟨A, cp, rfl⟩ := Kd.R_slice HO.out
    by_cases hle : c ≤ N
    · have hb : decide ((c : Int) ≤ (N : Int)) = true := decide_eq_true (by omega)
      have HT : Aside0 (csF (c + 1) = csF c ++ [3 * (c : Int)]) := ⟨csF_succ c⟩
      have HYL : Aside0 ((csF c).length ≤ 100000) := ⟨by rw [csF_len]; omega⟩
      have e3 : wrap64 (3 * (c : Int)) = 3 * c := by unfold wrap64; omega
      generalize csF c = ys at HO HT HYL ⊢
      go_wp2_with ((with_reducible refine gate_builtin (b := .append) (xs := #[.tmp 42, .tmp 45]) rfl ?_); at_builtin; refine Kd.R_append (Kd.int .i64) (w0 := w2) w2.heap.size rfl (.tmp 42) (.tmp 45) 22 3 (.int .i64 0) 8 rfl Try.underlying22 info3 rfl (by decide) (by decide) (.slice A ys.length cp) ys (3 * (c : Int)) [.int .i64 (3 * (c : Int))] (fun k => w2.heap.size ≤ k) (fun _ => False) rfl rfl ?aP (fun _ hk => hk.elim) ?aF ?aO ?aB ?aS ?aL ?_; (case aP => exact rfl); (case aF => exact fun k hk => Nat.le_trans HB.out.size hk); (case aO => exact HO.out); (case aB => exact HB.out); (case aS => exact HB.out.size); (case aL => have := HYL.out; omega); intro v5 w5 ho hb5 hg hat; have HO5 := Aside0.mk ho; have HB5 := Aside0.mk hb5; clear ho hb5 hg hat)
      rw [← HT.out] at HO5
      go_wp2_with fail
      go_roundg (gk - 1)
      case measure => omega
      case rel => exact ⟨c + 1, by go_num, by omega, HO5, HB5⟩
    · obtain rfl : c = N + 1 := by omega
      have hb : decide (((N + 1 : Nat) : Int) ≤ (N : Int)) = false := decide_eq_false (by omega)
      have HOB := HO.out.1
      have hcap := (Kd.R_reads' HO.out).2.1
      have HC : Aside0 ((Kd.int .i64).C wr A (csF (N + 1)).length (csF (N + 1))) := ⟨(Kd.R_reads' HO.out).2.2⟩
      have HA : Aside0 (∀ k, AtB A k → k ≠ bm) := ⟨fun k hk => by
        have hob : (Value.slice A (csF (N + 1)).length cp).ownBlock = some k := by
          cases A with
          | none => exact absurd hk AtB.none
          | some a => exact hk
        have := HOB k hob
        have := HPB.out
        omega⟩
      have H3 := Aside0.mk (H2.out.next HB.out)
      rw [csF_len] at hcap ⊢
      have HCAP := Aside0.mk hcap
      clear HO HOB hcap
      have C1 := grant_in w wr p bm N [] o A cp (csF (N + 1)) H3.out HC.out (by rw [csF_len]; exact HCAP.out) HA.out (by omega) (by rw [csF_len]; omega)
      rw [csF_len, (gF1 ⟨hN1, hN2⟩ ⟨ho1, ho2⟩).1, (gF1 ⟨hN1, hN2⟩ ⟨ho1, ho2⟩).2] at C1
      have C1 := Aside0.mk C1
      go_wp2_with fail
      refine C1.out.mono ?_
      rintro e w3 ⟨rfl, h, hf⟩
      have H4 := Aside0.mk h
      have HC4 := Aside0.mk (C_fr1 HC.out hf HA.out)
      clear h hf C1 H3 HB hb
      go_wp2_with fail
      refine (left_calls p bm N [] w3 H4.out.is (by omega) (by simp)).mono ?_
      rintro e w4 ⟨rfl, hb⟩
      rw [show (N : Int) - (([] : Tab).length : Int) = (N : Int) from by simp]
      have H5 := Aside0.mk (H4.out.next hb)
      have HC5 := Aside0.mk (Kd.C_below HC4.out hb)
      clear hb H4 HC4
      have hcap := HCAP.out
      go_wp2_with fail
      have hct : (csF (N + 1)).take N = csF N := by rw [csF_succ, List.take_left' (csF_len N)]
      have HCT : Aside0 ((Kd.int .i64).C w4 A (csF N).length (csF N)) := ⟨by
        have := Kd.C_take (m := N) HC5.out (by rw [csF_len]; omega)
        rwa [hct] at this⟩
      have C2 := grant_in w w4 p bm N [] o A cp (csF N) H5.out HCT.out (by rw [csF_len]; omega) HA.out (by omega) (by rw [csF_len]; omega)
      rw [csF_len, (gF2 ⟨hN1, hN2⟩ ⟨ho1, ho2⟩).1, (gF2 ⟨hN1, hN2⟩ ⟨ho1, ho2⟩).2] at C2
      refine C2.mono ?_
      rintro e w5 ⟨rfl, h, hf⟩
      have H6 := Aside0.mk h
      have HC6 := Aside0.mk (C_fr1 HC5.out hf HA.out)
      clear h hf C2 H5 HC5 HCT hct
      go_wp2_with fail
      refine (left_calls p bm N (TN o N) w5 H6.out.is (by omega) (by rw [TN_len]; omega)).mono ?_
      rintro e w6 ⟨rfl, hb⟩
      rw [TN_len, show (N : Int) - (N : Int) = 0 by omega]
      have H7 := Aside0.mk (H6.out.next hb)
      have HC7 := Aside0.mk (Kd.C_below HC6.out hb)
      clear hb H6 HC6
      have hx : rd (csF (N + 1)) (N : Int) = 3 * (N : Int) := by
        rw [csF_succ]
        simp [rd, csF_len]
      obtain ⟨ad, rfl, x0⟩ := Kd.at_int HC7.out (N : Int) (by omega) (by rw [csF_len]; omega)
      rw [hx] at x0
      simp only [Int.toNat_natCast] at x0
      clear hx
      have e4 : wrap64 (o + (N : Int)) = o + N := by unfold wrap64; omega
      go_wp2_with fail
      have C3 := grant_lit w w6 p bm N (TN o N) (o + N) [3 * (N : Int)] H7.out (by omega) (by simp)
      rw [(gF4 ⟨hN1, hN2⟩ ⟨ho1, ho2⟩).1, (gF4 ⟨hN1, hN2⟩ ⟨ho1, ho2⟩).2] at C3
      refine C3.mono ?_
      rintro e w7 ⟨rfl, h, hf⟩
      have H8 := Aside0.mk h
      have HC8 := Aside0.mk (C_fr1 HC7.out hf HA.out)
      clear h hf C3 H7 HC7 x0 e4
      obtain ⟨k0, ek, k00, k01⟩ := bmod a2 N (by omega) (by omega)
      obtain ⟨K, rfl⟩ : ∃ K : Nat, k0 = (K : Int) := ⟨k0.toNat, by omega⟩
      have hK : K < N := by omega
      have hz : ((N : Int) == 0) = false := beq_eq_false_iff_ne.2 (by omega)
      have hz2 : ¬ (N : Int) = 0 := by omega
      have hz3 : ¬ N = 0 := by omega
      go_wp2_with fail
      clear ek k00 k01
      have hNN := And.intro hN1 hN2
      have hoo := And.intro ho1 ho2
      have HNN := Aside0.mk hNN
      have HOO := Aside0.mk hoo
      clear hNN hoo
      refine (free_lit w w7 p bm N (TN o N) (3 * (K : Int)) (o + K + 1) H8.out).mono ?_
      rintro e w8 ⟨rfl, h, hf⟩
      rw [gF5 HNN.out HOO.out hK] at h ⊢
      have H9 := Aside0.mk h
      have HC9 := Aside0.mk (C_fr1 HC8.out hf HA.out)
      clear h hf H8 HC8
      go_wp2_with fail
      refine (free_lit w w8 p bm N (TN o N) (3 * (K : Int)) (o + K) H9.out).mono ?_
      rintro e w9 ⟨rfl, h, hf⟩
      rw [gF6 HNN.out HOO.out hK] at h ⊢
      have H10 := Aside0.mk h
      have HC10 := Aside0.mk (C_fr1 HC9.out hf HA.out)
      clear h hf H9 HC9
      have hx : rd (csF (N + 1)) (N : Int) = 3 * (N : Int) := by
        rw [csF_succ]
        simp [rd, csF_len]
      obtain ⟨ad', e', x0⟩ := Kd.at_int HC10.out (N : Int) (by omega) (by rw [csF_len]; omega)
      cases e'
      rw [hx] at x0
      simp only [Int.toNat_natCast] at x0
      have e4 : wrap64 (o + (N : Int)) = o + N := by unfold wrap64; omega
      have HHX := Aside0.mk hx
      clear hx
      go_wp2_with fail
      have C4 := grant_lit w w9 p bm N (adel (3 * (K : Int)) (TN o N)) (o + N) [3 * (N : Int)] H10.out (by omega) (by simp)
      rw [(gF7 HNN.out HOO.out hK).1, (gF7 HNN.out HOO.out hK).2] at C4
      refine C4.mono ?_
      rintro e w10 ⟨rfl, h, hf⟩
      have H11 := Aside0.mk h
      have HC11 := Aside0.mk (C_fr1 HC10.out hf HA.out)
      clear h hf C4 H10 HC10 x0
      obtain ⟨ad', e', x0⟩ := Kd.at_int HC11.out (N : Int) (by omega) (by rw [csF_len]; omega)
      cases e'
      rw [HHX.out] at x0
      simp only [Int.toNat_natCast] at x0
      obtain ⟨U, hU⟩ : ∃ U, aput (3 * (N : Int)) (o + N) (adel (3 * (K : Int)) (TN o N)) = U := ⟨_, rfl⟩
      have G8 := gF8 HNN.out HOO.out hK
      have G9 := gF9 HNN.out HOO.out hK H11.out.ok
      rw [hU] at H11 G8 G9
      clear hU
      have HG9 := Aside0.mk G9
      have HG8 := Aside0.mk G8
      clear G8 G9
      go_wp2_with fail
      refine (order_calls p bm N U (3 * (N : Int)) w10 H11.out.is).mono ?_
      rintro e w11 ⟨rfl, rfl⟩
      rw [HG8.out.1]
      go_wp2_with fail
      refine (order_calls p bm N U (3 * (K : Int)) _ H11.out.is).mono ?_
      rintro e w12 ⟨rfl, rfl⟩
      rw [HG8.out.2]
      clear x0
      go_wp2_with fail
      refine (all_calls p bm N U _ H11.out.is H11.out.ok).mono ?_
      rintro e w13 ⟨v, rfl, hR, hb⟩
      have H12 := Aside0.mk (H11.out.next hb)
      have hbs := Kd.R_base hR
      obtain ⟨Aa, ca, rfl⟩ := Kd.R_slice hR
      have HCA := Aside0.mk (Kd.R_reads' hR).2.2
      have HAA : Aside0 (∀ k, AtB Aa k → k ≠ bm) := ⟨fun k hk => by
        have hob : (Value.slice Aa (allF U).length ca).ownBlock = some k := by
          cases Aa with
          | none => exact absurd hk AtB.none
          | some a => exact hk
        have h1 := hbs k hob
        have h2 := H11.out.bm_lt
        omega⟩
      have HAL : Aside0 ((allF U).length ≤ 100000) := ⟨by
        unfold allF
        rw [List.length_map, asc_len, List.length_map]
        exact H11.out.ok.len⟩
      clear hR hb hbs
      go_wp2_with fail
      refine (free_in w w13 p bm N U Aa ca (allF U) H12.out HCA.out HAA.out HAL.out).mono ?_
      rintro e w14 ⟨rfl, h, _⟩
      rw [HG9.out] at h ⊢
      have H13 := Aside0.mk h
      clear h
      go_wp2_with fail
      refine (left_calls p bm N [] w14 H13.out.is (by omega) (by simp)).mono ?_
      rintro e w15 ⟨rfl, hb⟩
      rw [show (N : Int) - (([] : Tab).length : Int) = (N : Int) from by simp]
      have H14 := Aside0.mk (H13.out.next hb)
      clear hb
      go_wp2_with fail
      go_ret
      exact ⟨rfl, H14.out.below⟩
end Go.Proofs.Ytnkpleggmiamdaa.Le
