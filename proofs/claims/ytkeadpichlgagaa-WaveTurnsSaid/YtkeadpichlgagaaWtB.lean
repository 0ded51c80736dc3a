/- WaveTurns, walked. -/
import Derived.Test.YtkeadpichlgagaaWrA
import Derived.Test.YtkeadpichlgagaaWtA
import Derived.BigQuiet
namespace Go.Proofs.Ytkeadpichlgagaa.Wv
open Go.RowKit Go.Maps Go.Proofs.YtkeadpichlgagaaW.PrintWords Go.Proofs.YtkeadpichlgagaaW.PrintLast Go.Proofs.YtkeadpichlgagaaW.PrintMore
open Go.Proofs.Ytkeadpichlgagaa.PWaveReady Go.Proofs.Ytkeadpichlgagaa.Mp
set_option linter.unusedVariables false
set_option linter.unusedSimpArgs false
set_option linter.unnecessarySimpa false

theorem bmod (y m : Int) (h1 : 0 < m) (h2 : m ≤ 1000000) : ∃ t, (wrap64 (y.tmod m + m)).tmod m = t ∧ 0 ≤ t ∧ t < m := by
  have a := Int.tmod_lt_of_pos y h1
  have b := Int.lt_tmod_of_pos y h1
  have e : wrap64 (y.tmod m + m) = y.tmod m + m := by unfold wrap64; omega
  exact ⟨_, rfl, by rw [e]; exact Int.tmod_nonneg _ (by omega), by rw [e]; exact Int.tmod_lt_of_pos _ h1⟩
theorem ordR_fst {G : Gr} (h : ordE G = 0) : (ordR G).1 = ordA G := by unfold ordR; rw [if_pos h]

set_option maxHeartbeats 4000000 in
set_option maxRecDepth 100000 in
theorem turns_law (A : Option Addr) (c : Nat) (G : Gr) (Ap : Option Addr) (cp : Nat) (ps : List Int) (w : World) (hr : GC w A G) (hc : G.length ≤ c) (hN : G.length ≤ 9223372036854775806) (hw : ∀ y : Nat, y < G.length → (row G (y : Int)).length ≤ 1000000000000000)
    (ho : (Kd.int .i64).C w Ap ps.length ps) (hcp : ps.length ≤ cp) :
    Calls Try.prog 5 #[.slice A G.length c, .slice Ap ps.length cp] w fun e w' => e = .returned (.bool true) ∧ Below w.heap.size w w' := by
  have HR := Aside0.mk hr
  have HP := Aside0.mk ho
  have HW := Aside0.mk (And.intro hN hw)
  clear hr ho hN hw
  go_enter Try.func5, Try.ntmps5
  go_wp2_with fail
  refine (awake_calls _).mono ?_
  rintro e w1 ⟨rfl, hb⟩
  have HB1 := Aside0.mk hb
  clear hb
  go_wp2_with fail
  refine (small_calls A c G w1 (Kd.C_below HR.out HB1.out) hc HW.out.1 HW.out.2).mono ?_
  rintro e w2 ⟨rfl, hb⟩
  have HB2 := Aside0.mk (HB1.out.trans (hb.mono HB1.out.size))
  clear hb HB1
  cases hsm : smallB G with
  | false =>
    clear hsm
    go_wp2_with fail
    refine (awake_calls _).mono ?_
    rintro e w3 ⟨rfl, hb⟩
    have HB3 := Aside0.mk (HB2.out.trans (hb.mono HB2.out.size))
    clear hb
    go_wp2_with fail
    go_ret
    exact ⟨rfl, HB3.out⟩
  | true =>
    have HS := Aside0.mk (sml_of hsm)
    clear hsm
    by_cases h100 : (100 : Int) < ps.length
    · have hd : decide ((100 : Int) < ps.length) = true := decide_eq_true h100
      go_wp2_with fail
      refine (awake_calls _).mono ?_
      rintro e w3 ⟨rfl, hb⟩
      have HB3 := Aside0.mk (HB2.out.trans (hb.mono HB2.out.size))
      clear hb
      go_wp2_with fail
      go_ret
      exact ⟨rfl, HB3.out⟩
    · have hd : decide ((100 : Int) < ps.length) = false := decide_eq_false h100
      have hps : ps.length ≤ 100 := by omega
      have hn12 := HS.out.n
      go_wp2_with fail
      refine (worder_calls A c G w2 (Kd.C_below HR.out HB2.out) hc HS.out.sz).mono ?_
      rintro e w3 ⟨v3, rfl, hv, hb⟩
      rw [ordR_snd]
      have HB3 := Aside0.mk (HB2.out.trans (hb.mono HB2.out.size))
      have HV3 := Aside0.mk hv
      clear hb hv HB2 h100
      by_cases h0 : ordE G = 0
      · have H0 := Aside0.mk h0
        have HRT := Aside0.mk (rt_of h0)
        rw [h0]
        replace HV3 : Aside0 _ := ⟨by have := HV3.out; rw [ordR_fst h0] at this; exact this⟩
        clear h0
        obtain ⟨A3, c3, rfl⟩ := Kd.R_slice HV3.out
        have HX3 := Aside0.mk (Kd.R_reads' HV3.out)
        obtain ⟨N, hNN⟩ : ∃ N, G.length = N := ⟨_, rfl⟩
        have HNN := Aside0.mk hNN
        have HAL : Aside0 ((ordA G).length = N) := ⟨by rw [HRT.out.all, hNN]⟩
        rw [HAL.out] at HX3 ⊢
        rw [hNN] at hc hn12 ⊢
        clear hNN
        go_wp2_with ((with_reducible refine gate_dst (N := 37) rfl ?_); refine Kd.R_make Kd.bool w3.heap.size 4 rfl (N := 37) rfl 34 _ _ rfl (N : Int) rfl rfl Try.underlying34 (.bool false) 1 info4 rfl (by decide) (by decide) false (ok := fun k => w3.heap.size ≤ k) (okp := fun _ => False) rfl (fun _ hk => hk.elim) (Nat.le_refl _) (by omega) (by omega) (Below.refl _ _) (Nat.le_refl _) ?_; intro v4 w4 ho hb hg hnew; rw [Int.toNat_natCast] at ho; have HO4 := Aside0.mk ho; have HB4 := Aside0.mk hb; clear ho hb hg hnew)
        obtain ⟨Ag, cg, rfl⟩ := Kd.R_slice HO4.out
        have HQL0 : Aside0 ((List.replicate N false).length = N) := ⟨List.length_replicate⟩
        rw [HQL0.out]
        replace HO4 : Aside0 (Kd.bool.R 4 w4 w3.heap.size (fun k => w3.heap.size ≤ k) (.slice Ag N cg) (List.replicate N false)) := ⟨by have := HO4.out; rwa [HQL0.out] at this⟩
        go_loopg [8, 9, 10, 11] N (fun kq v8 v9 v10 v11 wr => ∃ (i : Nat) (q : List Bool), v8 = .int .i64 i ∧ i + kq = N ∧ Aside0 (Ov N ((ordA G).take i) q) ∧ Aside0 (Kd.bool.R 4 wr w3.heap.size (fun k => w3.heap.size ≤ k) (.slice Ag N cg) q) ∧ Aside0 (Below w3.heap.size w3 wr))
        case atStart => exact ⟨0, List.replicate N false, rfl, by omega, ⟨by rw [List.take_zero]; exact Ov.nil N⟩, HO4, HB4⟩
        case round =>
          clear HO4 HB4
          obtain ⟨i, q, rfl, hi, HOV, HIN, HBL⟩ := hrel
          by_cases hlt : i < N
          · have hlt' : (i : Int) < (N : Int) := by omega
            have hia : i < (ordA G).length := by rw [HAL.out]; exact hlt
            obtain ⟨t, ht⟩ := ordA_turn hia
            have HE : Aside0 (rdyO G q = (ordA G)[i] :: t) := ⟨by rw [rdyO_eq H0.out (S := (ordA G).take i) (by rw [HNN.out]; exact HOV.out), ht]⟩
            have hin := (ordA_st G).inn _ (List.getElem_mem hia)
            obtain ⟨x, hx⟩ : ∃ x : Nat, (ordA G)[i] = (x : Int) := ⟨((ordA G)[i]).toNat, by omega⟩
            rw [hx] at HE hin
            have hxN : x < N := by have := HNN.out; omega
            have HNX : Aside0 (Ov N ((ordA G).take (i + 1)) (q.set x true)) := ⟨by
              have := HOV.out.next (a := (x : Int)) (by omega) (by omega)
              rw [Int.toNat_natCast] at this
              rw [List.take_succ_eq_append_getElem hia, hx]
              exact this⟩
            have er : rd (ordA G) (i : Int) = (x : Int) := by rw [← hx]; simp [rd, hia]
            have hlen : (rdyO G q).length ≤ 12 := by unfold rdyO; rw [if_pos H0.out]; have := rngf_length (isRO G q) G.length; have := HNN.out; omega
            have hql : q.length = N := HOV.out.len
            have hqne : q.length ≠ 0 := by omega
            obtain ⟨gb, cg', ev, hgb, _, _⟩ := Kd.R_form HIN.out (by omega)
            injection ev with ea el ec
            subst ea
            clear el ec hin ht hx
            go_wp2_with fail
            have C := ready_calls (some ⟨gb, 0, none⟩) cg q A c G wr (Kd.R_reads' HIN.out).2.2 (Kd.C_below HR.out (HB3.out.trans (HBL.out.mono HB3.out.size))) (by rw [HNN.out]; exact hc) HS.out.sz
            rw [HNN.out, hql] at C
            refine C.mono ?_
            clear C
            rintro e w5 ⟨v9, rfl, hv, hb⟩
            rw [HE.out] at hv hlen
            have HV9 := Aside0.mk hv
            have HBL5 := Aside0.mk (HBL.out.trans (hb.mono HBL.out.size))
            have HIN5 := Aside0.mk (Kd.R_below HIN.out hb)
            clear hv hb HIN HBL HE
            obtain ⟨A9, c9, rfl⟩ := Kd.R_slice HV9.out
            have HX9 := Aside0.mk (Kd.R_reads' HV9.out)
            obtain ⟨L, hL⟩ : ∃ L, ((x : Int) :: t).length = L := ⟨_, rfl⟩
            have hL0 : 0 < L := by rw [← hL]; simp
            rw [hL] at HX9 hlen ⊢
            have HY5 := HX3.out.2.2
            go_wp2_with fail
            go_loopg [10, 11] L (fun kq v10 v11 wq => ∃ (j : Nat) (b : Bool), v11 = .int .i64 j ∧ v10 = .bool b ∧ j + kq = L ∧ Aside0 (b = decide (0 < j)) ∧ Aside0 (Below w5.heap.size w5 wq))
            case atStart => exact ⟨0, false, rfl, rfl, by omega, ⟨rfl⟩, ⟨Below.refl _ _⟩⟩
            case round =>
              obtain ⟨j, b, rfl, rfl, hj, HBJ, HBQ⟩ := hrel
              by_cases hjl : j < L
              · have hjl' : (j : Int) < (L : Int) := by omega
                obtain ⟨ad9, ea9, y0⟩ := Kd.at_int (Kd.C_below HX9.out.2.2 HBQ.out) j (by omega) hjl'
                subst ea9
                simp only [Int.toNat_natCast] at y0
                obtain ⟨ad3, ea3, z0⟩ := Kd.at_int (Kd.C_below HX3.out.2.2 (HBL5.out.trans (HBQ.out.mono HBL5.out.size))) i (by omega) hlt'
                subst ea3
                simp only [Int.toNat_natCast] at z0
                rw [er] at z0
                have HRX : Aside0 (j = 0 → rd ((x : Int) :: t) (j : Int) = (x : Int)) := ⟨by rintro rfl; rfl⟩
                have hjb := HBJ.out
                generalize rd ((x : Int) :: t) (j : Int) = rx at y0 HRX
                cases b with
                | true =>
                  clear hjb
                  go_wp2_with fail
                  go_big_quiet (fail)
                  go_wp2_with fail
                  go_roundg (L - (j + 1))
                  case measure => omega
                  case rel => exact ⟨j + 1, true, by go_num, rfl, by omega, ⟨by simp⟩, ⟨by first | exact pw_below_drewN HBQ.out _ | exact HBQ.out⟩⟩
                | false =>
                  have hj0 : j = 0 := by simpa using hjb.symm
                  have hrx := HRX.out hj0
                  subst hrx
                  clear hjb hj0
                  go_wp2_with fail
                  go_big_quiet (fail)
                  go_wp2_with fail
                  go_roundg (L - (j + 1))
                  case measure => omega
                  case rel => exact ⟨j + 1, true, by go_num, by first | rfl | simp, by omega, ⟨by simp⟩, ⟨by first | exact pw_below_drewN HBQ.out _ | exact HBQ.out⟩⟩
              · have hb1 : b = true := by rw [HBJ.out]; exact decide_eq_true (by omega)
                subst hb1
                have HBL6 := Aside0.mk (HBL5.out.trans (HBQ.out.mono HBL5.out.size))
                have HIN6 := Aside0.mk (Kd.R_below HIN5.out HBQ.out)
                obtain ⟨ad3, ea3, z0⟩ := Kd.at_int (Kd.C_below HX3.out.2.2 HBL6.out) i (by omega) hlt'
                subst ea3
                simp only [Int.toNat_natCast] at z0
                rw [er] at z0
                obtain ⟨k0, k1⟩ := Rb_cell HIN6.out hxN
                have HIN7 := Aside0.mk (Rb_put HIN6.out x true)
                have HBL7 := Aside0.mk (HBL6.out.setCell (p := ⟨gb, x, none⟩) hgb (.bool true))
                clear hj HBQ HIN5 HBL5
                go_wp2_with fail
                go_roundg (N - (i + 1))
                case measure => omega
                case rel => exact ⟨i + 1, q.set x true, by go_num, by omega, HNX, HIN7, HBL7⟩
          · clear hi HOV HIN
            go_wp2_with ((with_reducible refine gate_dst (N := 75) rfl ?_); refine Kd.R_make Kd.bool wr.heap.size 4 rfl (N := 75) rfl 34 _ _ rfl (N : Int) rfl rfl Try.underlying34 (.bool false) 1 info4 rfl (by decide) (by decide) false (ok := fun k => wr.heap.size ≤ k) (okp := fun _ => False) rfl (fun _ hk => hk.elim) (Nat.le_refl _) (by omega) (by omega) (Below.refl _ _) (Nat.le_refl _) ?_; intro v5 w5 ho hb hg hnew; rw [Int.toNat_natCast] at ho; have HO5 := Aside0.mk ho; have HB5 := Aside0.mk hb; clear ho hb hg hnew)
            have HBV := Aside0.mk (HB3.out.trans ((HBL.out.trans (HB5.out.mono HBL.out.size)).mono HB3.out.size))
            have HSB : Aside0 (w.heap.size ≤ wr.heap.size) := ⟨Nat.le_trans HB3.out.size HBL.out.size⟩
            replace HBL := HB5
            clear HB5
            obtain ⟨Ah, ch, rfl⟩ := Kd.R_slice HO5.out
            rw [HQL0.out]
            replace HO5 : Aside0 (Kd.bool.R 4 w5 wr.heap.size (fun k => wr.heap.size ≤ k) (.slice Ah N ch) (List.replicate N false)) := ⟨by have := HO5.out; rwa [HQL0.out] at this⟩
            have hsz5 := HBL.out.size
            have HSZ5 := Aside0.mk hsz5
            clear hsz5
            generalize wr.heap.size = sb at HO5 HSZ5 HSB
            clear HBL
            go_loopg [12, 13, 14] N (fun kq v12 v13 v14 wq => ∃ (i : Nat) (q : List Bool) (S : List Int), v12 = .int .i64 i ∧ i + kq = N ∧ Aside0 (St G S) ∧ Aside0 (S.length = i) ∧ Aside0 (Ov N S q) ∧ Aside0 (Kd.bool.R 4 wq sb (fun k => sb ≤ k) (.slice Ah N ch) q) ∧ Aside0 (Below sb w5 wq))
            case atStart => exact ⟨0, List.replicate N false, [], rfl, by omega, ⟨St.nil G⟩, ⟨rfl⟩, ⟨Ov.nil N⟩, HO5, ⟨Below.refl _ _⟩⟩
            case round =>
              clear HO5
              obtain ⟨i, q, S, rfl, hi, HST, HSL, HOV, HIN, HBL⟩ := hrel
              have hlen : (rdyO G q).length ≤ 12 := by unfold rdyO; rw [if_pos H0.out]; have := rngf_length (isRO G q) G.length; have := HNN.out; omega
              have hql : q.length = N := HOV.out.len
              have HE : Aside0 (rdyO G q = rdy G S) := ⟨rdyO_eq H0.out (by rw [HNN.out]; exact HOV.out)⟩
              rw [HE.out] at hlen
              have HBX := Aside0.mk (HBV.out.trans (HBL.out.mono HSB.out))
              by_cases hlt : i < N
              · have hlt' : (i : Int) < (N : Int) := by omega
                have hne := rdy_some HRT.out HST.out (by rw [HSL.out, HNN.out]; exact hlt)
                have HMR : Aside0 (∀ x ∈ rdy G S, x ∈ rdy G S) := ⟨fun x h => h⟩
                have hL0 : 0 < (rdy G S).length := List.length_pos_iff.2 hne
                have hqne : q.length ≠ 0 := by omega
                obtain ⟨gb, cg', ev, hgb, _, _⟩ := Kd.R_form HIN.out (by omega)
                injection ev with ea el ec
                subst ea
                clear el ec hne
                go_wp2_with fail
                have C := ready_calls (some ⟨gb, 0, none⟩) ch q A c G wr (Kd.R_reads' HIN.out).2.2 (Kd.C_below HR.out HBX.out) (by rw [HNN.out]; exact hc) HS.out.sz
                rw [HNN.out, hql] at C
                refine C.mono ?_
                clear C
                rintro e w6 ⟨v9, rfl, hv, hb⟩
                rw [HE.out] at hv
                have HV9 := Aside0.mk hv
                have HBL6 := Aside0.mk (HBL.out.trans (hb.mono (Nat.le_trans HSZ5.out HBL.out.size)))
                have HIN6 := Aside0.mk (Kd.R_below HIN.out hb)
                clear hv hb HIN HBL HE
                obtain ⟨A9, c9, rfl⟩ := Kd.R_slice HV9.out
                have HX9 := Aside0.mk (Kd.R_reads' HV9.out)
                obtain ⟨L, hL⟩ : ∃ L, (rdy G S).length = L := ⟨_, rfl⟩
                rw [hL] at HX9 hlen hL0 ⊢
                have HL := Aside0.mk hL
                have hLe : (L == 0) = false := by simpa using (by omega : L ≠ 0)
                have hLe2 : ((L : Int) == 0) = false := by simpa using (by omega : L ≠ 0)
                clear hL
                go_upto_if 91 with fail
                go_cut [14] (fun v14 wx => ∃ t : Nat, v14 = .int .i64 t ∧ t < L ∧ Aside0 (wx = w6))
                case first =>
                  by_cases hip : i < ps.length
                  · have hip' : (i : Int) < (ps.length : Int) := by omega
                    obtain ⟨adp, eap, z0⟩ := Kd.at_int (Kd.C_below HP.out (HBV.out.trans (HBL6.out.mono HSB.out))) i (by omega) hip'
                    subst eap
                    simp only [Int.toNat_natCast] at z0
                    generalize rd ps (i : Int) = pi at z0
                    obtain ⟨tt, et, t0, t1⟩ := bmod pi L (by omega) (by omega)
                    obtain ⟨t, rfl⟩ : ∃ t : Nat, tt = t := ⟨tt.toNat, by omega⟩
                    have HT := Aside0.mk et
                    clear et
                    go_wp2_with fail
                    go_meet
                    case rel => exact ⟨t, by rw [← HT.out], by omega, ⟨rfl⟩⟩
                  · go_wp2_with fail
                    go_meet
                    case rel => exact ⟨0, rfl, hL0, ⟨rfl⟩⟩
                case rest =>
                  obtain ⟨t, rfl, ht, HWC⟩ := hcut
                  obtain rfl := HWC.out
                  have htl : t < (rdy G S).length := by rw [HL.out]; exact ht
                  have hmem := List.getElem_mem htl
                  have hin := mem_rdy.1 hmem
                  have HNS := Aside0.mk (HST.out.next hmem)
                  obtain ⟨x, hx⟩ : ∃ x : Nat, (rdy G S)[t] = (x : Int) := ⟨((rdy G S)[t]).toNat, by omega⟩
                  have er : rd (rdy G S) (t : Int) = (x : Int) := by rw [← hx]; simp [rd, htl]
                  rw [hx] at HNS hin
                  have hxN : x < N := by have := HNN.out; omega
                  have HNX : Aside0 (Ov N (S ++ [(x : Int)]) (q.set x true)) := ⟨by
                    have := HOV.out.next (a := (x : Int)) (by omega) (by omega)
                    rwa [Int.toNat_natCast] at this⟩
                  have ht' : (t : Int) < (L : Int) := by omega
                  obtain ⟨ad9, ea9, z0⟩ := Kd.at_int HX9.out.2.2 t (by omega) ht'
                  subst ea9
                  simp only [Int.toNat_natCast] at z0
                  rw [er] at z0
                  obtain ⟨k0, k1⟩ := Rb_cell HIN6.out hxN
                  have HIN7 := Aside0.mk (Rb_put HIN6.out x true)
                  have HBL7 := Aside0.mk (HBL6.out.setCell (p := ⟨gb, x, none⟩) hgb (.bool true))
                  clear er hx hmem hin htl HBL6 HIN6
                  go_wp2_with fail
                  go_roundg (N - (i + 1))
                  case measure => omega
                  case rel => exact ⟨i + 1, q.set x true, S ++ [(x : Int)], by go_num, by omega, HNS, ⟨by rw [List.length_append, HSL.out]; rfl⟩, HNX, HIN7, HBL7⟩
              · have HRN : Aside0 (rdyO G q = []) := ⟨by rw [HE.out]; exact rdy_none HST.out (by rw [HSL.out, HNN.out]; omega)⟩
                go_wp2_with fail
                have C := ready_calls Ah ch q A c G wr (Kd.R_reads' HIN.out).2.2 (Kd.C_below HR.out HBX.out) (by rw [HNN.out]; exact hc) HS.out.sz
                rw [HNN.out, hql] at C
                refine C.mono ?_
                clear C
                rintro e w6 ⟨v9, rfl, hv, hb⟩
                rw [HRN.out] at hv
                obtain ⟨A9, c9, rfl⟩ := Kd.R_slice hv
                have HBL6 := Aside0.mk (HBX.out.trans (hb.mono HBX.out.size))
                clear hv hb
                go_wp2_with fail
                go_ret
                exact ⟨rfl, HBL6.out⟩
      · have hb3 : (ordE G != 0) = true := by simpa using h0
        clear h0
        go_wp2_with fail
        go_ret
        exact ⟨rfl, HB3.out⟩
end Go.Proofs.Ytkeadpichlgagaa.Wv
