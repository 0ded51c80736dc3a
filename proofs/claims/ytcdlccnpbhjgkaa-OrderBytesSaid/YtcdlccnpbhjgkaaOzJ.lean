/- OrderBytes, walked. -/
import Derived.Test.YtcdlccnpbhjgkaaOz3
import Derived.Test.YtcdlccnpbhjgkaaOfB
namespace Go.Proofs.Ytcdlccnpbhjgkaa.Oo
open Go.RowKit Go.Maps Go.Proofs.YtcdlccnpbhjgkaaW.PrintWords Go.Proofs.YtcdlccnpbhjgkaaW.PrintLast Go.Proofs.YtcdlccnpbhjgkaaW.PrintMore
open Go.Proofs.Ytcdlccnpbhjgkaa.POrderBytes Go.Proofs.Ytcdlccnpbhjgkaa.Mp
set_option linter.unusedVariables false
set_option linter.unusedSimpArgs false

theorem rBytes_calls (os : List S82) (hl : os.length ≤ 100) (A : Option Addr) (c : Nat) (w : World) (hC : k82.C w A os.length os) (hc : os.length ≤ c) : Calls Try.prog 50 #[.slice A os.length c] w fun e w' => ∃ A' c', e = .returned (.slice A' (formB 1 (os.map oN)).length c') ∧ (Kd.int .u8).C w' A' (formB 1 (os.map oN)).length (formB 1 (os.map oN)) ∧ Below w.heap.size w w' := by
  obtain ⟨k, hk⟩ := (rBytes_val os hl).rounds
  refine (echelonref19_Bytes.calls k A c os _ w hC hc hk).mono ?_
  rintro e w' ⟨v, rfl, hR, hB⟩
  obtain ⟨A', c', rfl, hc', hC'⟩ := Kd.R_reads hR
  exact ⟨A', c', rfl, hC', hB⟩
theorem rReportBytes_calls (os : List S99) (hl : os.length ≤ 100) (A : Option Addr) (c : Nat) (w : World) (hC : k99.C w A os.length os) (hc : os.length ≤ c) : Calls Try.prog 51 #[.slice A os.length c] w fun e w' => ∃ A' c', e = .returned (.slice A' (formB 2 (os.map rN)).length c') ∧ (Kd.int .u8).C w' A' (formB 2 (os.map rN)).length (formB 2 (os.map rN)) ∧ Below w.heap.size w w' := by
  obtain ⟨k, hk⟩ := (rReportBytes_val os hl).rounds
  refine (echelonref19_ReportBytes.calls k A c os _ w hC hc hk).mono ?_
  rintro e w' ⟨v, rfl, hR, hB⟩
  obtain ⟨A', c', rfl, hc', hC'⟩ := Kd.R_reads hR
  exact ⟨A', c', rfl, hC', hB⟩
theorem rRight_calls (o : S82) (w : World) : Calls Try.prog 54 #[.agg #[.int .i64 o.f0, .int .i64 o.f1, .int .i64 o.f2, .int .i64 o.f3]] w fun e w' => e = .returned (.bool (okO o)) ∧ Below w.heap.size w w' :=
  echelonref19_Right.calls o.f0 o.f1 o.f2 o.f3 _ w (rRight_val _ _ _ _)
theorem rRightReport_calls (o : S99) (w : World) : Calls Try.prog 56 #[.agg #[.int .i64 o.f0, .int .i64 o.f1, .int .i64 o.f2, .int .i64 o.f3, .int .i64 o.f4, .bool o.f5]] w fun e w' => e = .returned (.bool (okR o)) ∧ Below w.heap.size w w' :=
  echelonref19_RightReport.calls o.f0 o.f1 o.f2 o.f3 o.f4 o.f5 _ w (rRightReport_val _)
theorem orders_calls (os : List S82) (hl : os.length ≤ 100) (A A2 : Option Addr) (c c2 : Nat) (w : World) (hC : k82.C w A os.length os) (hc : os.length ≤ c) (hC2 : k82.C w A2 os.length os) (hc2 : os.length ≤ c2) : Calls Try.prog 55 #[.slice A os.length c, .slice A2 os.length c2] w fun e w' => e = .returned (.bool true) ∧ Below w.heap.size w w' := by
  obtain ⟨k, hk⟩ := (orders_same os (by omega)).rounds
  exact (echelonlaw19_orders.calls k A c os A2 c2 os true w hC hc hC2 hc2 hk).mono fun e w' ⟨he, hd⟩ => ⟨he, hd.below⟩
theorem reports_calls (os : List S99) (hl : os.length ≤ 100) (A A2 : Option Addr) (c c2 : Nat) (w : World) (hC : k99.C w A os.length os) (hc : os.length ≤ c) (hC2 : k99.C w A2 os.length os) (hc2 : os.length ≤ c2) : Calls Try.prog 57 #[.slice A os.length c, .slice A2 os.length c2] w fun e w' => e = .returned (.bool true) ∧ Below w.heap.size w w' := by
  obtain ⟨k, hk⟩ := (reports_same os (by omega)).rounds
  exact (echelonlaw19_reports.calls k A c os A2 c2 os true w hC hc hC2 hc2 hk).mono fun e w' ⟨he, hd⟩ => ⟨he, hd.below⟩
theorem take_all {α : Type} (p : α → Bool) (xs : List α) (i : Nat) (h : i < xs.length) : (xs.take (i + 1)).all p = ((xs.take i).all p && p xs[i]) := by
  rw [List.take_succ_eq_append_getElem h, List.all_append]
  simp
set_option maxHeartbeats 8000000 in
set_option maxRecDepth 100000 in
theorem obytes_calls (A : Option Addr) (c : Nat) (os : List S82) (B : Option Addr) (d : Nat) (rs : List S99) (w : World) (hC : k82.C w A os.length os) (hc : os.length ≤ c) (hw : ∀ o ∈ os, Wf82 o) (hD : k99.C w B rs.length rs) (hd : rs.length ≤ d) (hv : ∀ o ∈ rs, Wf99 o) :
    Calls Try.prog 12 #[.slice A os.length c, .slice B rs.length d] w fun e w' => e = .returned (.bool true) ∧ Below w.heap.size w w' := by
  have HC := Aside0.mk hC
  have HD := Aside0.mk hD
  have hm1 := hC.2.1
  have hm2 := hD.2.1
  have HW := Aside0.mk hw
  have HV := Aside0.mk hv
  clear hC hD hw hv
  by_cases h60 : os.length ≤ 60 ∧ rs.length ≤ 60
  · obtain ⟨h1, h2⟩ := h60
    have h1' : (os.length : Int) ≤ 60 := by omega
    have h2' : (rs.length : Int) ≤ 60 := by omega
    have HJ1 := Aside0.mk (show ∀ ns ∈ os.map oN, ns.length = 4 from fun ns hns => by obtain ⟨o, _, rfl⟩ := List.mem_map.1 hns; rfl)
    have HJ2 := Aside0.mk (show ∀ ns ∈ rs.map rN, ns.length = 6 from fun ns hns => by obtain ⟨o, _, rfl⟩ := List.mem_map.1 hns; rfl)
    have HP1 := Aside0.mk (parseP_form os (by omega) HW.out)
    have HP2 := Aside0.mk (parseR_form rs (by omega) HV.out)
    have HY1 := Aside0.mk (form_byt 1 (by decide) (os.map oN))
    have HY2 := Aside0.mk (form_byt 2 (by decide) (rs.map rN))
    have HL1 := Aside0.mk (form_len 1 HJ1.out (by omega) (by rw [List.length_map]; omega))
    have HL2 := Aside0.mk (form_len 2 HJ2.out (by omega) (by rw [List.length_map]; omega))
    have HCB := Aside0.mk (fun W (hB : Below w.heap.size w W) => Bytes_calls os A c W (Kd.C_below HC.out hB) hc (by omega))
    have HCR := Aside0.mk (fun W (hB : Below w.heap.size w W) => ReportBytes_calls rs B d W (Kd.C_below HD.out hB) hd (by omega))
    have HRB := Aside0.mk (fun W (hB : Below w.heap.size w W) => rBytes_calls os (by omega) A c W (Kd.C_below HC.out hB) hc)
    have HRR := Aside0.mk (fun W (hB : Below w.heap.size w W) => rReportBytes_calls rs (by omega) B d W (Kd.C_below HD.out hB) hd)
    clear HJ1 HJ2
    generalize formB 1 (os.map oN) = fa at HP1 HY1 HL1 HCB HRB
    generalize formB 2 (rs.map rN) = fb at HP2 HY2 HL2 HCR HRR
    go_enter Try.func12, Try.ntmps12
    go_wp2_with fail
    refine (OfA.awake_calls _).mono ?_
    rintro e w1 ⟨rfl, hB⟩
    have HB1 := Aside0.mk hB
    clear hB
    go_wp2_with fail
    refine (HCB.out w1 HB1.out).mono ?_
    rintro e w2 ⟨A2, c2, rfl, hc2, hC2, hB⟩
    have HB2 := Aside0.mk (HB1.out.trans (hB.mono HB1.out.size))
    have HC2 := Aside0.mk (And.intro hc2 hC2)
    clear hB hc2 hC2 HB1
    go_wp2_with fail
    refine (HCR.out w2 HB2.out).mono ?_
    rintro e w3 ⟨A3, c3, rfl, hc3, hC3, hB⟩
    have HB3 := Aside0.mk (HB2.out.trans (hB.mono HB2.out.size))
    have HC2 := Aside0.mk (And.intro HC2.out.1 (Kd.C_below HC2.out.2 hB))
    have HC3 := Aside0.mk (And.intro hc3 hC3)
    clear hB hc3 hC3 HB2
    have HLA := Aside0.mk HL1.out
    generalize hna : fa.length = na at HC2 HRB HL1 ⊢
    generalize hnb : fb.length = nb at HC3 HRR HL2 ⊢
    have HNA := Aside0.mk hna
    have HNB := Aside0.mk hnb
    clear hna hnb
    have HK : Aside0 (∀ W', Below w3.heap.size w3 W' → (convert 27 9 (.slice A2 na c2)).run Try.prog W' = .ok (.string (strOfNums fa)) W' ∧ (convert 27 9 (.slice A3 nb c3)).run Try.prog W' = .ok (.string (strOfNums fb)) W') := ⟨fun W' hB => ⟨run_str (P := Try.prog) Try.underlying27 Try.underlying5 Try.underlying9 (Kd.C_below HC2.out.2 hB) c2, run_str (P := Try.prog) Try.underlying27 Try.underlying5 Try.underlying9 (Kd.C_below HC3.out.2 hB) c3⟩⟩
    have HDR : Aside0 (Below w3.heap.size w3 w3.drew) := ⟨(Below.refl _ _).drew⟩
    go_wp2_with fail
    go_region_held (fun w' => (convert 27 9 (.slice A2 na c2)).run Try.prog w' = .ok (.string (strOfNums fa)) w' ∧ (convert 27 9 (.slice A3 nb c3)).run Try.prog w' = .ok (.string (strOfNums fb)) w') (first | exact HK.out _ HB5.out | exact HK.out _ HB4.out | exact HK.out _ HDR.out)
      (first | (go_at_call 50; refine (HRB.out _ (HB3.out.trans (HDR.out.mono HB3.out.size))).mono ?_; rintro e w4 ⟨A4, c4, rfl, hC4, hB4⟩; have s4 := run_str (P := Try.prog) Try.underlying27 Try.underlying5 Try.underlying9 hC4 c4; have HB4 : Aside0 (Below w3.heap.size w3 w4) := ⟨HDR.out.trans hB4⟩; clear hC4 hB4) | (go_at_call 51; refine (HRR.out _ (HB3.out.trans (HB4.out.mono HB3.out.size))).mono ?_; rintro e w5 ⟨A5, c5, rfl, hC5, hB5⟩; have s5 := run_str (P := Try.prog) Try.underlying27 Try.underlying5 Try.underlying9 hC5 c5; have HB5 : Aside0 (Below w3.heap.size w3 w5) := ⟨HB4.out.trans (hB5.mono HB4.out.size)⟩; clear hC5 hB5))
    clear HK HDR HRB HRR HCB HCR
    have HB6 := Aside0.mk (HB3.out.trans (HB5.out.mono HB3.out.size))
    have HC2 := Aside0.mk (And.intro HC2.out.1 (Kd.C_below HC2.out.2 HB5.out))
    have HC3 := Aside0.mk (And.intro HC3.out.1 (Kd.C_below HC3.out.2 HB5.out))
    clear s4 s5 HB3 HB4 HB5
    have HPA := Aside0.mk (fun W (hB : Below w5.heap.size w5 W) => Parse_calls fa A2 c2 W (by rw [HNA.out]; exact Kd.C_below HC2.out.2 hB) (by rw [HNA.out]; exact HC2.out.1) HY1.out (by rw [HNA.out]; have := HL1.out; omega))
    have HPR := Aside0.mk (fun W (hB : Below w5.heap.size w5 W) => ParseReports_calls fb A3 c3 W (by rw [HNB.out]; exact Kd.C_below HC3.out.2 hB) (by rw [HNB.out]; exact HC3.out.1) HY2.out (by rw [HNB.out]; have := HL2.out; omega))
    obtain ⟨ro, hro⟩ : ∃ ro, os.all okO = ro := ⟨_, rfl⟩
    obtain ⟨rr, hrr⟩ : ∃ rr, rs.all okR = rr := ⟨_, rfl⟩
    obtain ⟨⟨px, pe⟩, hpx⟩ : ∃ r, parseP fa = r := ⟨_, rfl⟩
    obtain ⟨⟨qx, qe⟩, hqx⟩ : ∃ r, parseR fb = r := ⟨_, rfl⟩
    rw [hpx, hro] at HP1
    rw [hqx, hrr] at HP2
    rw [hpx, HNA.out] at HPA
    rw [hqx, HNB.out] at HPR
    have HRO2 := Aside0.mk hro
    have HRR2 := Aside0.mk hrr
    clear hro hrr hpx hqx
    go_wp2_with fail
    refine (HPA.out _ (Below.refl _ _)).mono ?_
    rintro e w6 ⟨hB, A6, c6, rfl, hc6, hC6⟩
    have HBx6 := Aside0.mk hB
    have HB7 := Aside0.mk (HB6.out.trans (hB.mono HB6.out.size))
    have HC6 := Aside0.mk (And.intro hc6 hC6)
    clear hB hc6 hC6 HPA HB6
    go_wp2_with fail
    refine (HPR.out _ HBx6.out).mono ?_
    rintro e w7 ⟨hB, A7, c7, rfl, hc7, hC7⟩
    have HBx7 := Aside0.mk hB
    have HB8 := Aside0.mk (HB7.out.trans (hB.mono HB7.out.size))
    have HC7 := Aside0.mk (And.intro hc7 hC7)
    clear hB hc7 hC7 HPR HB7
    simp only at HC6 HC7 ⊢
    go_wp2_with fail
    go_loopg [11, 12] os.length (fun kq v11 v12 wr => ∃ i : Nat, v12 = .int .i64 i ∧ v11 = .bool ((os.take i).all okO) ∧ i + kq = os.length ∧ Aside0 (Below w.heap.size w wr) ∧ Aside0 (Below w7.heap.size w7 wr))
    case atStart => exact ⟨0, rfl, rfl, by omega, HB8, ⟨Below.refl _ _⟩⟩
    case round =>
      clear HB8
      obtain ⟨i, rfl, rfl, hi, HBr, HBq⟩ := hrel
      obtain ⟨wo, rfl⟩ : ∃ wo : World, wo = wr := ⟨_, rfl⟩
      by_cases hlt : i < os.length
      · have hlt' : (i : Int) < (os.length : Int) := by omega
        have HT := Aside0.mk (take_all okO os i hlt)
        obtain ⟨ad, rfl, x0, x1, x2, x3⟩ := at_T82 (Kd.C_below HC.out HBr.out) i (by omega) hlt'
        simp only [Int.toNat_natCast] at x0 x1 x2 x3
        have hrd : rd_T82 os (i : Int) = os[i] := by simp [rd_T82, hlt]
        rw [hrd] at x0 x1 x2 x3
        clear hrd
        generalize os[i] = q at x0 x1 x2 x3 HT
        generalize (os.take i).all okO = p at HT ⊢
        cases p with
        | true =>
          have HCR := Aside0.mk (rRight_calls q wo)
          go_wp2_with fail
          refine HCR.out.mono ?_
          rintro e wy ⟨rfl, hB⟩
          have HBy := Aside0.mk (HBr.out.trans (hB.mono HBr.out.size))
          have HBz := Aside0.mk (HBq.out.trans (hB.mono HBq.out.size))
          clear hB x0 x1 x2 x3 HCR
          go_wp2_with fail
          go_roundg (gk - 1)
          case measure => omega
          case rel => exact ⟨i + 1, by go_num, by rw [HT.out]; simp, by omega, HBy, HBz⟩
        | false =>
          clear x0 x1 x2 x3
          go_wp2_with fail
          go_roundg (gk - 1)
          case measure => omega
          case rel => exact ⟨i + 1, by go_num, by rw [HT.out]; rfl, by omega, HBr, HBq⟩
      · have HT : Aside0 ((os.take i).all okO = os.all okO) := ⟨by rw [List.take_of_length_le (by omega)]⟩
        rw [HT.out, HRO2.out]
        cases ro with
        | true =>
          obtain ⟨hpx, hpe⟩ := Prod.mk.inj (HP1.out.trans (if_pos rfl))
          subst hpe
          replace hpx := hpx.symm
          subst hpx
          go_wp2_with fail
          refine (orders_calls os (by omega) A6 A c6 c _ (Kd.C_below HC6.out.2 (HBx7.out.trans (HBq.out.mono HBx7.out.size))) HC6.out.1 (Kd.C_below HC.out HBr.out) hc).mono ?_
          rintro e w9 ⟨rfl, hB⟩
          have HBs := Aside0.mk (HBr.out.trans (hB.mono HBr.out.size))
          have HBt := Aside0.mk (HBq.out.trans (hB.mono HBq.out.size))
          clear hB HBr HBq
          go_wp2_with fail
          go_loopg [13, 14] rs.length (fun kq v13 v14 wr => ∃ i : Nat, v14 = .int .i64 i ∧ v13 = .bool ((rs.take i).all okR) ∧ i + kq = rs.length ∧ Aside0 (Below w.heap.size w wr) ∧ Aside0 (Below w7.heap.size w7 wr))
          case atStart => exact ⟨0, rfl, rfl, by omega, HBs, HBt⟩
          case round =>
            clear HBs HBt
            obtain ⟨i, rfl, rfl, hi, HBr, HBq⟩ := hrel
            by_cases hlt : i < rs.length
            · have hlt' : (i : Int) < (rs.length : Int) := by omega
              have HT := Aside0.mk (take_all okR rs i hlt)
              obtain ⟨ad, rfl, x0, x1, x2, x3, x4, x5⟩ := at_T99 (Kd.C_below HD.out HBr.out) i (by omega) hlt'
              simp only [Int.toNat_natCast] at x0 x1 x2 x3 x4 x5
              have hrd : rd_T99 rs (i : Int) = rs[i] := by simp [rd_T99, hlt]
              rw [hrd] at x0 x1 x2 x3 x4 x5
              clear hrd
              generalize rs[i] = q at x0 x1 x2 x3 x4 x5 HT
              generalize (rs.take i).all okR = p at HT ⊢
              cases p with
              | true =>
                have HCR := Aside0.mk (rRightReport_calls q wr)
                go_wp2_with fail
                refine HCR.out.mono ?_
                rintro e wy ⟨rfl, hB⟩
                have HBy := Aside0.mk (HBr.out.trans (hB.mono HBr.out.size))
                have HBz := Aside0.mk (HBq.out.trans (hB.mono HBq.out.size))
                clear hB x0 x1 x2 x3 x4 x5 HCR
                go_wp2_with fail
                go_roundg (rs.length - (i + 1))
                case measure => omega
                case rel => exact ⟨i + 1, by go_num, by rw [HT.out]; simp, by omega, HBy, HBz⟩
              | false =>
                clear x0 x1 x2 x3 x4 x5
                go_wp2_with fail
                go_roundg (rs.length - (i + 1))
                case measure => omega
                case rel => exact ⟨i + 1, by go_num, by rw [HT.out]; rfl, by omega, HBr, HBq⟩
            · have HT : Aside0 ((rs.take i).all okR = rs.all okR) := ⟨by rw [List.take_of_length_le (by omega)]⟩
              rw [HT.out, HRR2.out]
              cases rr with
              | true =>
                obtain ⟨hpx, hpe⟩ := Prod.mk.inj (HP2.out.trans (if_pos rfl))
                subst hpe
                replace hpx := hpx.symm
                subst hpx
                go_wp2_with fail
                refine (reports_calls rs (by omega) A7 B c7 d _ (Kd.C_below HC7.out.2 HBq.out) HC7.out.1 (Kd.C_below HD.out HBr.out) hd).mono ?_
                rintro e wz ⟨rfl, hB⟩
                have HBz := Aside0.mk (HBr.out.trans (hB.mono HBr.out.size))
                clear hB
                go_wp2_with fail
                go_ret
                exact ⟨rfl, HBz.out⟩
              | false =>
                obtain ⟨rfl, rfl⟩ := Prod.mk.inj (HP2.out.trans (if_neg (by decide)))
                go_wp2_with fail
                go_ret
                exact ⟨rfl, HBr.out⟩
        | false =>
          obtain ⟨rfl, rfl⟩ := Prod.mk.inj (HP1.out.trans (if_neg (by decide)))
          have HBs := HBr
          have HBt := HBq
          clear HBr HBq
          go_wp2_with fail
          go_loopg [13, 14] rs.length (fun kq v13 v14 wr => ∃ i : Nat, v14 = .int .i64 i ∧ v13 = .bool ((rs.take i).all okR) ∧ i + kq = rs.length ∧ Aside0 (Below w.heap.size w wr) ∧ Aside0 (Below w7.heap.size w7 wr))
          case atStart => exact ⟨0, rfl, rfl, by omega, HBs, HBt⟩
          case round =>
            clear HBs HBt
            obtain ⟨i, rfl, rfl, hi, HBr, HBq⟩ := hrel
            by_cases hlt : i < rs.length
            · have hlt' : (i : Int) < (rs.length : Int) := by omega
              have HT := Aside0.mk (take_all okR rs i hlt)
              obtain ⟨ad, rfl, x0, x1, x2, x3, x4, x5⟩ := at_T99 (Kd.C_below HD.out HBr.out) i (by omega) hlt'
              simp only [Int.toNat_natCast] at x0 x1 x2 x3 x4 x5
              have hrd : rd_T99 rs (i : Int) = rs[i] := by simp [rd_T99, hlt]
              rw [hrd] at x0 x1 x2 x3 x4 x5
              clear hrd
              generalize rs[i] = q at x0 x1 x2 x3 x4 x5 HT
              generalize (rs.take i).all okR = p at HT ⊢
              cases p with
              | true =>
                have HCR := Aside0.mk (rRightReport_calls q wr)
                go_wp2_with fail
                refine HCR.out.mono ?_
                rintro e wy ⟨rfl, hB⟩
                have HBy := Aside0.mk (HBr.out.trans (hB.mono HBr.out.size))
                have HBz := Aside0.mk (HBq.out.trans (hB.mono HBq.out.size))
                clear hB x0 x1 x2 x3 x4 x5 HCR
                go_wp2_with fail
                go_roundg (rs.length - (i + 1))
                case measure => omega
                case rel => exact ⟨i + 1, by go_num, by rw [HT.out]; simp, by omega, HBy, HBz⟩
              | false =>
                clear x0 x1 x2 x3 x4 x5
                go_wp2_with fail
                go_roundg (rs.length - (i + 1))
                case measure => omega
                case rel => exact ⟨i + 1, by go_num, by rw [HT.out]; rfl, by omega, HBr, HBq⟩
            · have HT : Aside0 ((rs.take i).all okR = rs.all okR) := ⟨by rw [List.take_of_length_le (by omega)]⟩
              rw [HT.out, HRR2.out]
              cases rr with
              | true =>
                obtain ⟨hpx, hpe⟩ := Prod.mk.inj (HP2.out.trans (if_pos rfl))
                subst hpe
                replace hpx := hpx.symm
                subst hpx
                go_wp2_with fail
                refine (reports_calls rs (by omega) A7 B c7 d _ (Kd.C_below HC7.out.2 HBq.out) HC7.out.1 (Kd.C_below HD.out HBr.out) hd).mono ?_
                rintro e wz ⟨rfl, hB⟩
                have HBz := Aside0.mk (HBr.out.trans (hB.mono HBr.out.size))
                clear hB
                go_wp2_with fail
                go_ret
                exact ⟨rfl, HBz.out⟩
              | false =>
                obtain ⟨rfl, rfl⟩ := Prod.mk.inj (HP2.out.trans (if_neg (by decide)))
                go_wp2_with fail
                go_ret
                exact ⟨rfl, HBr.out⟩
  · have hcase : (60 < os.length) ∨ (os.length ≤ 60 ∧ 60 < rs.length) := by omega
    clear h60
    rcases hcase with h | ⟨h, h'⟩
    all_goals
      go_enter Try.func12, Try.ntmps12
      go_wp2_with fail
      refine (OfA.awake_calls _).mono ?_
      rintro e w1 ⟨rfl, hB⟩
      have HB1 := Aside0.mk hB
      clear hB
      have hI : (60 : Int) < (os.length : Int) ∨ ((os.length : Int) ≤ 60 ∧ (60 : Int) < (rs.length : Int)) := by omega
      clear hI
      go_wp2_with fail
      refine (OfA.awake_calls _).mono ?_
      rintro e w2 ⟨rfl, hB⟩
      have HB2 := Aside0.mk (HB1.out.trans (hB.mono HB1.out.size))
      clear hB
      go_wp2_with fail
      go_ret
      exact ⟨rfl, HB2.out⟩
end Go.Proofs.Ytcdlccnpbhjgkaa.Oo
