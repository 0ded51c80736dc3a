/- WaveBehind, walked. -/
import Derived.Test.YtkeadpichlgagaaWbA
namespace Go.Proofs.Ytkeadpichlgagaa.Wv
open Go.RowKit Go.Maps Go.Proofs.YtkeadpichlgagaaW.PrintWords Go.Proofs.YtkeadpichlgagaaW.PrintLast Go.Proofs.YtkeadpichlgagaaW.PrintMore
open Go.Proofs.Ytkeadpichlgagaa.PWaveReady Go.Proofs.Ytkeadpichlgagaa.Mp
set_option linter.unusedVariables false
set_option linter.unusedSimpArgs false
set_option linter.unnecessarySimpa false

set_option maxHeartbeats 4000000 in
set_option maxRecDepth 100000 in
theorem behind_law (A : Option Addr) (c : Nat) (G : Gr) (n : Int) (w : World) (hr : GC w A G) (hc : G.length ≤ c) (hN : G.length ≤ 9223372036854775806) (hw : ∀ y : Nat, y < G.length → (row G (y : Int)).length ≤ 1000000000000000) :
    Calls Try.prog 6 #[.slice A G.length c, .int .i64 n] w fun e w' => e = .returned (.bool true) ∧ Below w.heap.size w w' := by
  have HR := Aside0.mk hr
  have HW := Aside0.mk (And.intro hN hw)
  clear hr hN hw
  go_enter Try.func6, Try.ntmps6
  go_wp2_with fail
  refine (awake_calls _).mono ?_
  rintro e w1 ⟨rfl, hb⟩
  have HB1 := Aside0.mk hb
  clear hb
  go_wp2_with fail
  refine (small_calls A c G w1 (Kd.C_below HR.out HB1.out) hc HW.out.1 HW.out.2).mono ?_
  rintro e w2 ⟨rfl, hb⟩
  have HB2 := Aside0.mk (HB1.out.trans (hb.mono HB1.out.size))
  clear hb HB1
  cases hsm : smallB G with
  | false =>
    clear hsm
    go_wp2_with fail
    refine (awake_calls _).mono ?_
    rintro e w3 ⟨rfl, hb⟩
    have HB3 := Aside0.mk (HB2.out.trans (hb.mono HB2.out.size))
    clear hb
    go_wp2_with fail
    go_ret
    exact ⟨rfl, HB3.out⟩
  | true =>
    have HS := Aside0.mk (sml_of hsm)
    clear hsm
    have hn12 := HS.out.n
    obtain ⟨N, hNN⟩ : ∃ N, G.length = N := ⟨_, rfl⟩
    have HNN := Aside0.mk hNN
    rw [hNN] at hc hn12 ⊢
    clear hNN
    by_cases hN0 : N = 0
    · have hd : ((N : Int) == 0) = true := by simpa using hN0
      go_wp2_with fail
      refine (awake_calls _).mono ?_
      rintro e w3 ⟨rfl, hb⟩
      have HB3 := Aside0.mk (HB2.out.trans (hb.mono HB2.out.size))
      clear hb
      go_wp2_with fail
      go_ret
      exact ⟨rfl, HB3.out⟩
    · have hd : ((N : Int) == 0) = false := by simpa using hN0
      obtain ⟨kk, ek, k0, k1⟩ := bmodB n N (by omega) (by omega)
      obtain ⟨k, rfl⟩ : ∃ k : Nat, kk = k := ⟨kk.toNat, by omega⟩
      have HK := Aside0.mk ek
      have hkN : k < N := by omega
      have hkG : k < G.length := by rw [HNN.out]; exact hkN
      have HKG := Aside0.mk hkG
      clear ek k0 k1 hkG
      go_upto_region 4 with fail
      rw [HK.out]
      go_wp2_with fail
      have C := worder_calls A c G w2 (Kd.C_below HR.out HB2.out) (by rw [HNN.out]; exact hc) HS.out.sz
      rw [HNN.out] at C
      refine C.mono ?_
      clear C
      rintro e w3 ⟨v3, rfl, hv, hb⟩
      rw [ordR_snd]
      have HB3 := Aside0.mk (HB2.out.trans (hb.mono HB2.out.size))
      have HV3 := Aside0.mk hv
      clear hb hv HB2 HK
      by_cases h0 : ordE G = 0
      · have H0 := Aside0.mk h0
        have HRT := Aside0.mk (rt_of h0)
        have hlr : levR G = levA G := by unfold levR; rw [if_pos h0]
        rw [h0]
        replace HV3 : Aside0 _ := ⟨by have := HV3.out; rw [ordRB h0] at this; exact this⟩
        clear h0
        obtain ⟨A3, c3, rfl⟩ := Kd.R_slice HV3.out
        have HX3 := Aside0.mk (Kd.R_reads' HV3.out)
        have HAL : Aside0 ((ordA G).length = N) := ⟨by rw [HRT.out.all, HNN.out]⟩
        rw [HAL.out] at HX3 ⊢
        go_wp2_with fail
        have C := levels_calls A c G w3 (Kd.C_below HR.out HB3.out) (by rw [HNN.out]; exact hc) HS.out.sz
        rw [HNN.out] at C
        refine C.mono ?_
        clear C
        rintro e w4 ⟨v8, rfl, hv, hb⟩
        rw [hlr] at hv
        obtain ⟨A8, c8, rfl⟩ := Kd.R_slice hv
        have hll : (levA G).length = N := by rw [(levA_at HRT.out).1, HNN.out]
        have hx8 := Kd.R_reads' hv
        rw [hll] at hx8 ⊢
        have HX8 := Aside0.mk hx8
        replace HX3 := Aside0.mk (Kd.C_below HX3.out.2.2 hb)
        have HB4 := Aside0.mk (HB3.out.trans (hb.mono HB3.out.size))
        clear hv hb hlr hll hx8 HV3 HB3
        go_wp2_with ((with_reducible refine gate_dst (N := 63) rfl ?_); refine Kd.R_make (Kd.int .i64) w4.heap.size 3 rfl (N := 63) rfl 25 _ _ rfl (N : Int) rfl rfl Try.underlying25 (.int .i64 0) 8 info3 rfl (by decide) (by decide) 0 (ok := fun k => w4.heap.size ≤ k) (okp := fun _ => False) rfl (fun _ hk => hk.elim) (Nat.le_refl _) (by omega) (by omega) (Below.refl _ _) (Nat.le_refl _) ?_; intro v5 w5 ho hb hg hnew; rw [Int.toNat_natCast] at ho; obtain ⟨ga, ca, ev2, hga, _, _⟩ := Kd.R_form ho (by rw [List.length_replicate]; omega); rw [List.length_replicate] at ev2; subst ev2; have HO5 := Aside0.mk ho; have HB5 := Aside0.mk hb; have HGA := Aside0.mk hga; clear ho hb hg hnew hga)
        go_loopg [11] N (fun kq v11 wr => ∃ (i : Nat) (a : List Int), v11 = .int .i64 i ∧ i + kq = N ∧ Aside0 (Pl G i a) ∧ Aside0 ((Kd.int .i64).R 3 wr w4.heap.size (fun k => w4.heap.size ≤ k) (.slice (some ⟨ga, 0, none⟩) N ca) a) ∧ Aside0 (Below w4.heap.size w4 wr))
        case atStart => exact ⟨0, List.replicate N 0, rfl, by omega, ⟨⟨by rw [List.length_replicate, HNN.out], fun j hj h => by omega⟩⟩, HO5, HB5⟩
        case round =>
          clear HO5 HB5
          obtain ⟨i, a, rfl, hi, HPL, HIN, HBL⟩ := hrel
          by_cases hlt : i < N
          · have hlt' : (i : Int) < (N : Int) := by omega
            have hia : i < (ordA G).length := by rw [HAL.out]; exact hlt
            have hin := (ordA_st G).inn _ (List.getElem_mem hia)
            have hnx := HPL.out.next hia
            obtain ⟨x, hx⟩ : ∃ x : Nat, (ordA G)[i] = (x : Int) := ⟨((ordA G)[i]).toNat, by omega⟩
            rw [hx, Int.toNat_natCast] at hnx
            have HNX := Aside0.mk hnx
            rw [hx] at hin
            have hxN : x < N := by have := HNN.out; omega
            have er : rd (ordA G) (i : Int) = (x : Int) := by rw [← hx]; simp [rd, hia]
            obtain ⟨ad3, ea3, z0⟩ := Kd.at_int (Kd.C_below HX3.out HBL.out) i (by omega) hlt'
            subst ea3
            simp only [Int.toNat_natCast] at z0
            rw [er] at z0
            obtain ⟨k0, k1⟩ := Ri_cell HIN.out hxN
            have HIN7 := Aside0.mk (Ri_put HIN.out x (i : Int))
            have HBL7 := Aside0.mk (HBL.out.setCell (p := ⟨ga, x, none⟩) HGA.out (.int .i64 i))
            clear er hx hin hnx HIN HBL
            go_wp2_with fail
            go_roundg (N - (i + 1))
            case measure => omega
            case rel => exact ⟨i + 1, a.set x i, by go_num, by omega, HNX, HIN7, HBL7⟩
          · have HPA : Aside0 (Pl G (ordA G).length a) := ⟨by have := HPL.out; rwa [show i = (ordA G).length from by have := HAL.out; omega] at this⟩
            have HBW := Aside0.mk (HB4.out.trans (HBL.out.mono HB4.out.size))
            go_wp2_with fail
            have C := behind_calls (k : Int) A c G wr (Kd.C_below HR.out HBW.out) (by rw [HNN.out]; exact hc) HS.out.sz
            rw [HNN.out] at C
            refine C.mono ?_
            clear C
            rintro e w6 ⟨v12, rfl, hv, hb⟩
            obtain ⟨A12, c12, rfl⟩ := Kd.R_slice hv
            have HX12 := Aside0.mk (Kd.R_reads' hv)
            have HB6 := Aside0.mk (HBW.out.trans (hb.mono HBW.out.size))
            have HX86 := Aside0.mk (Kd.C_below HX8.out.2.2 (HBL.out.trans (hb.mono HBL.out.size)))
            have HAT := Aside0.mk (Kd.R_reads' (Kd.R_below HIN.out hb)).2.2
            obtain ⟨ada, hada⟩ : ∃ ada : Addr, (⟨ga, 0, none⟩ : Addr) = ada := ⟨_, rfl⟩
            rw [hada] at HAT ⊢
            clear hada
            have hml : (behR G (k : Int)).length ≤ N := by rw [behR_at H0.out (by omega) (by have := HKG.out; omega), HNN.out]; exact rngf_length _ _
            obtain ⟨M, hM⟩ : ∃ M, (behR G (k : Int)).length = M := ⟨_, rfl⟩
            have HMM := Aside0.mk hM
            rw [hM] at HX12 hml ⊢
            clear hM hv hb HIN HBL HBW HPL hi
            go_wp2_with ((with_reducible refine gate_dst (N := 82) rfl ?_); refine Kd.R_make Kd.bool w6.heap.size 4 rfl (N := 82) rfl 34 _ _ rfl (N : Int) rfl rfl Try.underlying34 (.bool false) 1 info4 rfl (by decide) (by decide) false (ok := fun k => w6.heap.size ≤ k) (okp := fun _ => False) rfl (fun _ hk => hk.elim) (Nat.le_refl _) (by omega) (by omega) (Below.refl _ _) (Nat.le_refl _) ?_; intro v7 w7 ho hb hg hnew; rw [Int.toNat_natCast] at ho; obtain ⟨gb, cb, ev2, hgb, _, _⟩ := Kd.R_form ho (by rw [List.length_replicate]; omega); rw [List.length_replicate] at ev2; subst ev2; have HO7 := Aside0.mk ho; have HB7 := Aside0.mk hb; have HGB := Aside0.mk hgb; clear ho hb hg hnew hgb)
            go_loopg [14] N (fun kq v14 wr => ∃ (i : Nat), v14 = .int .i64 i ∧ i + kq = N ∧ Aside0 (Kd.bool.R 4 wr w6.heap.size (fun k => w6.heap.size ≤ k) (.slice (some ⟨gb, 0, none⟩) N cb) (mk1 N k i)) ∧ Aside0 (Below w6.heap.size w6 wr))
            case atStart => exact ⟨0, rfl, by omega, ⟨by rw [mk1_zero]; exact HO7.out⟩, HB7⟩
            case round =>
              clear HO7 HB7
              obtain ⟨i, rfl, hi, HIN, HBL⟩ := hrel
              by_cases hlt : i < N
              · have hlt' : (i : Int) < (N : Int) := by omega
                obtain ⟨k0, k1⟩ := Rb_cell HIN.out hlt
                have hdn : decide ((i : Int) ≠ (k : Int)) = decide (i ≠ k) := by rw [Bool.eq_iff_iff, decide_eq_true_iff, decide_eq_true_iff]; omega
                have hib : ((i : Int) != (k : Int)) = decide (i ≠ k) := by rw [Bool.eq_iff_iff, bne_iff_ne, decide_eq_true_iff]; omega
                have HIB : Aside0 (decide (i ≠ k) = ((i : Int) != (k : Int))) := ⟨hib.symm⟩
                have HIN7 := Aside0.mk (Rb_put HIN.out i (decide (i ≠ k)))
                have HBL7 := Aside0.mk (HBL.out.setCell (p := ⟨gb, i, none⟩) HGB.out (.bool (decide (i ≠ k))))
                rw [mk1_next] at HIN7
                generalize decide (i ≠ k) = bb at hib HIN7 HBL7 HIB
                clear hdn
                go_wp2_with fail
                go_roundg (N - (i + 1))
                case measure => omega
                case rel => exact ⟨i + 1, by go_num, by omega, HIN7, HBL7⟩
              · have hiN : i = N := by omega
                subst hiN
                have HIN0 := HIN
                go_wp2_with fail
                go_loopg [15] M (fun kq v15 wq => ∃ (i' : Nat) (q : List Bool), v15 = .int .i64 i' ∧ i' + kq = M ∧ Aside0 (Mk G k ((behR G (k : Int)).take i') q) ∧ Aside0 (Kd.bool.R 4 wq w6.heap.size (fun k => w6.heap.size ≤ k) (.slice (some ⟨gb, 0, none⟩) i cb) q) ∧ Aside0 (Below w6.heap.size w6 wq))
                case atStart => exact ⟨0, mk1 i k i, rfl, by omega, ⟨by rw [List.take_zero]; have := Mk.start G k; rwa [HNN.out] at this⟩, HIN0, HBL⟩
                case round =>
                  obtain ⟨j, q, rfl, hj, HMK, HIN, HBL⟩ := hrel
                  by_cases hlt : j < M
                  · have hlt' : (j : Int) < (M : Int) := by omega
                    have hjb : j < (behR G (k : Int)).length := by rw [HMM.out]; exact hlt
                    have hbx := beh_all H0.out HKG.out (List.getElem_mem hjb) HPA.out
                    have hnx := HMK.out.next hbx.1 hbx.2.1
                    rw [← List.take_succ_eq_append_getElem hjb] at hnx
                    obtain ⟨x, hx⟩ : ∃ x : Nat, (behR G (k : Int))[j] = (x : Int) := ⟨((behR G (k : Int))[j]).toNat, by have := hbx.1; omega⟩
                    have er : rd (behR G (k : Int)) (j : Int) = (x : Int) := by rw [← hx]; simp [rd, hjb]
                    rw [hx, Int.toNat_natCast] at hnx
                    have HNX := Aside0.mk hnx
                    have hxN : x < i := by have := hbx.2.1; rw [hx] at this; have := HNN.out; omega
                    obtain ⟨adx, eax, z0⟩ := Kd.at_int (Kd.C_below HX12.out.2.2 HBL.out) j (by omega) hlt'
                    subst eax
                    simp only [Int.toNat_natCast] at z0
                    rw [er] at z0
                    obtain ⟨k0, k1⟩ := Rb_cell HIN.out hxN
                    have HIN7 := Aside0.mk (Rb_put HIN.out x false)
                    have HBL7 := Aside0.mk (HBL.out.setCell (p := ⟨gb, x, none⟩) HGB.out (.bool false))
                    clear er hx hbx hnx hjb HIN HBL HIN0
                    go_wp2_with fail
                    go_roundg (M - (j + 1))
                    case measure => omega
                    case rel => exact ⟨j + 1, q.set x false, by go_num, by omega, HNX, HIN7, HBL7⟩
                  · have HONE : Aside0 (rdyO G q = [(k : Int)]) := ⟨by
                      have hm := HMK.out
                      rw [List.take_of_length_le (by rw [HMM.out]; omega)] at hm
                      exact hm.one H0.out HKG.out⟩
                    have hql : q.length = i := by rw [HMK.out.len, HNN.out]
                    have HBW := Aside0.mk (HB6.out.trans (HBL.out.mono HB6.out.size))
                    have HX8W := Aside0.mk (Kd.C_below HX86.out HBL.out)
                    have HATW := Aside0.mk (Kd.C_below HAT.out HBL.out)
                    have HX12W := Aside0.mk (Kd.C_below HX12.out.2.2 HBL.out)
                    clear HIN0
                    go_wp2_with fail
                    have C := ready_calls (some ⟨gb, 0, none⟩) cb q A c G wr (Kd.R_reads' HIN.out).2.2 (Kd.C_below HR.out HBW.out) (by rw [HNN.out]; exact hc) HS.out.sz
                    rw [HNN.out, hql, HONE.out] at C
                    refine C.mono ?_
                    clear C
                    rintro e w8 ⟨v16, rfl, hv, hb⟩
                    obtain ⟨g16, c16, ev16, _, _, _⟩ := Kd.R_form hv (by simp)
                    subst ev16
                    obtain ⟨z0, _⟩ := Ri_cell hv (i := 0) (by simp)
                    rw [show [(k : Int)].getD 0 0 = (k : Int) from rfl] at z0
                    replace HBW := Aside0.mk (HBW.out.trans (hb.mono HBW.out.size))
                    replace HX8W := Aside0.mk (Kd.C_below HX8W.out hb)
                    replace HATW := Aside0.mk (Kd.C_below HATW.out hb)
                    replace HX12W := Aside0.mk (Kd.C_below HX12W.out hb)
                    clear hv hb HIN HBL HMK hj
                    go_wp2_with fail
                    go_loopg [17, 18, 19, 20] M (fun kq v17 v18 v19 v20 wq => ∃ (j : Nat), v17 = .int .i64 j ∧ j + kq = M ∧ Aside0 (Below w8.heap.size w8 wq))
                    case atStart => exact ⟨0, rfl, by omega, ⟨Below.refl _ _⟩⟩
                    case round =>
                      obtain ⟨j, rfl, hj, HBL⟩ := hrel
                      by_cases hlt : j < M
                      · have hlt' : (j : Int) < (M : Int) := by omega
                        have hjb : j < (behR G (k : Int)).length := by rw [HMM.out]; exact hlt
                        have hbx := beh_all H0.out HKG.out (List.getElem_mem hjb) HPA.out
                        obtain ⟨x, hx⟩ : ∃ x : Nat, (behR G (k : Int))[j] = (x : Int) := ⟨((behR G (k : Int))[j]).toNat, by have := hbx.1; omega⟩
                        have er : rd (behR G (k : Int)) (j : Int) = (x : Int) := by rw [← hx]; simp [rd, hjb]
                        rw [hx, Int.toNat_natCast] at hbx
                        obtain ⟨x0, x1, hlev, hat, hup⟩ := hbx
                        have hxN : (x : Int) < (i : Int) := by have := HNN.out; omega
                        have hkN' : (k : Int) < (i : Int) := by omega
                        obtain ⟨adx, eax, z0⟩ := Kd.at_int (Kd.C_below HX12W.out HBL.out) j (by omega) hlt'
                        subst eax
                        simp only [Int.toNat_natCast] at z0
                        rw [er] at z0
                        obtain ⟨ad8, ea8, y0⟩ := Kd.at_int (Kd.C_below HX8W.out HBL.out) x (by omega) hxN
                        obtain ⟨ad8', ea8', y1⟩ := Kd.at_int (Kd.C_below HX8W.out HBL.out) k (by omega) hkN'
                        rw [ea8] at ea8'
                        injection ea8' with ea8'
                        subst ea8'
                        subst ea8
                        simp only [Int.toNat_natCast] at y0 y1
                        have hl1 : decide (rd (levA G) (x : Int) ≤ rd (levA G) (k : Int)) = false := decide_eq_false (by simp only [rd, Int.toNat_natCast]; omega)
                        obtain ⟨ad9, ea9, y2⟩ := Kd.at_int (Kd.C_below HATW.out HBL.out) x (by omega) (by rw [HPA.out.len, HNN.out]; exact hxN)
                        injection ea9 with ea9
                        subst ea9
                        obtain ⟨ad9', ea9', y3⟩ := Kd.at_int (Kd.C_below HATW.out HBL.out) k (by omega) (by rw [HPA.out.len, HNN.out]; exact hkN')
                        injection ea9' with ea9'
                        subst ea9'
                        simp only [Int.toNat_natCast] at y2 y3
                        have hl2 : decide (rd a (x : Int) ≤ rd a (k : Int)) = false := decide_eq_false (by simp only [rd, Int.toNat_natCast]; omega)
                        generalize rd (levA G) (x : Int) = lx at y0 hl1
                        generalize rd (levA G) (k : Int) = lk at y1 hl1
                        generalize rd a (x : Int) = ax at y2 hl2
                        generalize rd a (k : Int) = ak at y3 hl2
                        have HUP := Aside0.mk hup
                        have HBZ := Aside0.mk (HBW.out.trans (HBL.out.mono HBW.out.size))
                        clear er hx hjb hlev hat hup
                        go_wp2_with fail
                        go_big_quiet (fail)
                        go_wp2_with fail
                        have HBZ2 := Aside0.mk (pw_below_drewN HBZ.out nq)
                        have HBL2 := Aside0.mk (pw_below_drewN HBL.out nq)
                        generalize wr.drewN nq = wd at HBZ2 HBL2 ⊢
                        have C := behind_calls (x : Int) A c G wd (Kd.C_below HR.out HBZ2.out) (by rw [HNN.out]; exact hc) HS.out.sz
                        rw [HNN.out] at C
                        refine C.mono ?_
                        clear C
                        rintro e w9 ⟨v19, rfl, hv, hb⟩
                        obtain ⟨A19, c19, rfl⟩ := Kd.R_slice hv
                        have HX19 := Aside0.mk (Kd.R_reads' hv).2.2
                        have HBL3 := Aside0.mk (HBL2.out.trans (hb.mono HBL2.out.size))
                        clear hv hb HBL HBZ
                        generalize behR G (x : Int) = up at HUP HX19 ⊢
                        have hmax := HX19.out.2.1
                        go_wp2_with fail
                        go_loopg [20] up.length (fun kq v20 wq => ∃ (z : Nat), v20 = .int .i64 z ∧ z + kq = up.length ∧ Aside0 (Below w9.heap.size w9 wq))
                        case atStart => exact ⟨0, rfl, by omega, ⟨Below.refl _ _⟩⟩
                        case round =>
                          obtain ⟨z, rfl, hz, HBQ⟩ := hrel
                          by_cases hzl : z < up.length
                          · have hzl' : (z : Int) < (up.length : Int) := by omega
                            obtain ⟨adu, eau, q0⟩ := Kd.at_int (Kd.C_below HX19.out HBQ.out) z (by omega) hzl'
                            subst eau
                            simp only [Int.toNat_natCast] at q0
                            have er : rd up (z : Int) = up[z] := by simp [rd, hzl]
                            rw [er] at q0
                            have hne := HUP.out _ (List.getElem_mem hzl)
                            have hnb : (up[z] == (k : Int)) = false := by simpa using hne
                            clear er hne
                            generalize up[z] = uz at q0 hnb
                            go_wp2_with fail
                            go_roundg (up.length - (z + 1))
                            case measure => omega
                            case rel => exact ⟨z + 1, by go_num, by omega, HBQ⟩
                          · clear hz
                            have HBL4 := Aside0.mk (HBL3.out.trans (HBQ.out.mono HBL3.out.size))
                            go_wp2_with fail
                            go_roundg (M - (j + 1))
                            case measure => omega
                            case rel => exact ⟨j + 1, by go_num, by omega, HBL4⟩
                      · go_wp2_with fail
                        go_ret
                        exact ⟨rfl, HBW.out.trans (HBL.out.mono HBW.out.size)⟩
      · have hb3 : (ordE G != 0) = true := by simpa using h0
        have HBR : Aside0 (behR G (k : Int) = []) := ⟨by unfold behR; rw [if_neg (fun h => h0 h.1)]⟩
        clear h0
        go_wp2_with fail
        have C := behind_calls (k : Int) A c G w3 (Kd.C_below HR.out HB3.out) (by rw [HNN.out]; exact hc) HS.out.sz
        rw [HNN.out, HBR.out] at C
        refine C.mono ?_
        clear C
        rintro e w4 ⟨v4, rfl, hv, hb⟩
        obtain ⟨A4, c4, rfl⟩ := Kd.R_slice hv
        have HB4 := Aside0.mk (HB3.out.trans (hb.mono HB3.out.size))
        clear hv hb
        go_wp2_with fail
        go_ret
        exact ⟨rfl, HB4.out⟩
end Go.Proofs.Ytkeadpichlgagaa.Wv
