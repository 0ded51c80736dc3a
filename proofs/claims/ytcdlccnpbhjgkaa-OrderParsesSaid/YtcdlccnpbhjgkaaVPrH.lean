/- Kept of the text PrH: what is reached (wip/tools/prune.py). -/
import Derived.Test.YtcdlccnpbhjgkaaVPz1
import Derived.Test.YtcdlccnpbhjgkaaVPrG
import Derived.Test.YtcdlccnpbhjgkaaVOfQ
import Derived.Deep.RegionHeld3
namespace Go.Proofs.Ytcdlccnpbhjgkaa.Oo
open Go.RowKit Go.Maps Go.Proofs.YtcdlccnpbhjgkaaW.PrintWords Go.Proofs.YtcdlccnpbhjgkaaW.PrintLast Go.Proofs.YtcdlccnpbhjgkaaW.PrintMore
open Go.Proofs.Ytcdlccnpbhjgkaa.POrderBytes Go.Proofs.Ytcdlccnpbhjgkaa.Mp
set_option linter.unusedVariables false
set_option linter.unusedSimpArgs false
theorem rParse_calls (bs : List Int) (hx : Byt bs) (hn : bs.length ≤ 100000) (A : Option Addr) (c : Nat) (w : World) (hC : (Kd.int .u8).C w A bs.length bs) (hc : bs.length ≤ c) : Calls Try.prog 58 #[.slice A bs.length c] w (ParseQ82 (parseP bs) w) := by
  obtain ⟨k, hk⟩ := (rParse_val bs hx hn).rounds
  refine (echelonref19_Parse.calls k A c bs _ _ w hC hc hk).mono ?_
  rintro e w' ⟨v, rfl, hR, hB⟩
  obtain ⟨A', c', rfl, hc', hC'⟩ := Kd.R_reads hR
  exact ⟨hB, A', c', rfl, hc', hC'⟩
theorem rParseReports_calls (bs : List Int) (hx : Byt bs) (hn : bs.length ≤ 100000) (A : Option Addr) (c : Nat) (w : World) (hC : (Kd.int .u8).C w A bs.length bs) (hc : bs.length ≤ c) : Calls Try.prog 59 #[.slice A bs.length c] w (ParseQ99 (parseR bs) w) := by
  obtain ⟨k, hk⟩ := (rParseReports_val bs hx hn).rounds
  refine (echelonref19_ParseReports.calls k A c bs _ _ w hC hc hk).mono ?_
  rintro e w' ⟨v, rfl, hR, hB⟩
  obtain ⟨A', c', rfl, hc', hC'⟩ := Kd.R_reads hR
  exact ⟨hB, A', c', rfl, hc', hC'⟩
theorem orders_calls2 (os : List S82) (hl : os.length ≤ 1000) (A A2 : Option Addr) (c c2 : Nat) (w : World) (hC : k82.C w A os.length os) (hc : os.length ≤ c) (hC2 : k82.C w A2 os.length os) (hc2 : os.length ≤ c2) : Calls Try.prog 55 #[.slice A os.length c, .slice A2 os.length c2] w fun e w' => e = .returned (.bool true) ∧ Below w.heap.size w w' := by
  obtain ⟨k, hk⟩ := (orders_same os hl).rounds
  exact (echelonlaw19_orders.calls k A c os A2 c2 os true w hC hc hC2 hc2 hk).mono fun e w' ⟨he, hd⟩ => ⟨he, hd.below⟩
theorem reports_calls2 (os : List S99) (hl : os.length ≤ 1000) (A A2 : Option Addr) (c c2 : Nat) (w : World) (hC : k99.C w A os.length os) (hc : os.length ≤ c) (hC2 : k99.C w A2 os.length os) (hc2 : os.length ≤ c2) : Calls Try.prog 57 #[.slice A os.length c, .slice A2 os.length c2] w fun e w' => e = .returned (.bool true) ∧ Below w.heap.size w w' := by
  obtain ⟨k, hk⟩ := (reports_same os hl).rounds
  exact (echelonlaw19_reports.calls k A c os A2 c2 os true w hC hc hC2 hc2 hk).mono fun e w' ⟨he, hd⟩ => ⟨he, hd.below⟩
theorem lit0 (W : World) : (Kd.int .u8).R 5 (W.alloc (.cells #[] 5)) W.heap.size (fun k => W.heap.size ≤ k) (.slice (some ⟨W.heap.size, 0, none⟩) 0 0) [] :=
  ⟨fun k hk => by simp [Value.ownBlock] at hk; omega, OwnRow.lit (R := _) (e := 5) (size := 1) (ps := ([] : List Int)) (inner := []) W W.heap.size (Reps.none _ _) (Nat.le_refl _) (by simp)⟩
set_option maxHeartbeats 8000000 in
set_option maxRecDepth 100000 in
theorem oparses_calls (A : Option Addr) (c : Nat) (bs : List Int) (w : World) (hC : (Kd.int .u8).C w A bs.length bs) (hc : bs.length ≤ c) (hx : Byt bs) :
    Calls Try.prog 13 #[.slice A bs.length c] w fun e w' => e = .returned (.bool true) ∧ Below w.heap.size w w' := by
  have HC := Aside0.mk hC
  have HX := Aside0.mk hx
  clear hC hx
  by_cases h1000 : bs.length ≤ 1000
  · have h1' : (bs.length : Int) ≤ 1000 := by omega
    go_enter Try.func13, Try.ntmps13
    go_wp2_with fail
    refine (OfP.awake_calls _).mono ?_
    rintro e w1 ⟨rfl, hB⟩
    have HB1 := Aside0.mk hB
    have HBA : Aside0 (Below w1.heap.size w1 (w1.alloc (.cells #[] 5))) := ⟨(Below.refl _ _).alloc (Nat.le_refl _) _⟩
    have HL := Aside0.mk (lit0 w1)
    clear hB
    have HPA := Aside0.mk (fun A c W (hC : (Kd.int .u8).C W A bs.length bs) (hc : bs.length ≤ c) => Parse_calls bs A c W hC hc HX.out (by omega))
    have HPR := Aside0.mk (fun A c W (hC : (Kd.int .u8).C W A bs.length bs) (hc : bs.length ≤ c) => ParseReports_calls bs A c W hC hc HX.out (by omega))
    have HRA := Aside0.mk (fun W (hB : Below w.heap.size w W) => rParse_calls bs HX.out (by omega) A c W (Kd.C_below HC.out hB) hc)
    have HRR := Aside0.mk (fun W (hB : Below w.heap.size w W) => rParseReports_calls bs HX.out (by omega) A c W (Kd.C_below HC.out hB) hc)
    have HPC := Aside0.mk (parseP_can HX.out (show bs.length ≤ 100000 by omega))
    have HRC := Aside0.mk (parseR_can HX.out (show bs.length ≤ 100000 by omega))
    have HPL := Aside0.mk (Nat.le_trans (parseP_len HX.out (show bs.length ≤ 100000 by omega)) h1000)
    have HRL := Aside0.mk (Nat.le_trans (parseR_len HX.out (show bs.length ≤ 100000 by omega)) h1000)
    have HNB := Aside0.mk (not_both bs)
    obtain ⟨⟨px, pe⟩, hpx⟩ : ∃ r, parseP bs = r := ⟨_, rfl⟩
    obtain ⟨⟨qx, qe⟩, hqx⟩ : ∃ r, parseR bs = r := ⟨_, rfl⟩
    rw [hpx] at HPA HRA HPC HPL HNB
    rw [hqx] at HPR HRR HRC HRL HNB
    clear hpx hqx
    simp only at HPC HRC HPL HRL HNB
    go_wp2_with ((with_reducible refine gate_builtin (b := .append) (xs := #[.tmp 20, .tmp 21]) rfl ?_); at_builtin; refine Kd.R_append_rows (Kd.int .u8) (w0 := w1) w1.heap.size rfl (.tmp 20) (.tmp 21) 27 5 (.int .u8 0) 1 rfl Try.underlying27 info5 rfl (by decide) (by decide) (.slice (some ⟨w1.heap.size, 0, none⟩) 0 0) [] bs _ _ _ (fun k => w1.heap.size ≤ k) (fun _ => False) rfl rfl ?aO ?aR (fun _ _ h => h) (fun _ hk => hk.elim) ?aF ?aB ?aS ?aL ?_; (case aO => exact HL.out); (case aR => exact Kd.C_below HC.out (HB1.out.trans (HBA.out.mono HB1.out.size))); (case aF => exact fun k hk => Nat.le_trans HBA.out.size hk); (case aB => exact HBA.out); (case aS => exact HBA.out.size); (case aL => simp; omega); intro v5 w5 ho hb hg hat; obtain ⟨A5, c5, ev5, hc5, hC5⟩ := Kd.R_reads ho; subst ev5; have HB5 := Aside0.mk (HB1.out.trans (hb.mono HB1.out.size)); have HC5 := Aside0.mk (And.intro hc5 hC5); have HX5 := Aside0.mk hb; clear ho hb hg hat hc5 hC5)
    refine (HPA.out _ _ w5 HC5.out.2 HC5.out.1).mono ?_
    rintro e w6 ⟨hB, A6, c6, rfl, hc6, hC6⟩
    have HB6 := Aside0.mk (HB5.out.trans (hB.mono HB5.out.size))
    have HC6 := Aside0.mk (And.intro hc6 hC6)
    have HBA6 : Aside0 (Below w6.heap.size w6 (w6.alloc (.cells #[] 5))) := ⟨(Below.refl _ _).alloc (Nat.le_refl _) _⟩
    have HL6 := Aside0.mk (lit0 w6)
    clear hB hc6 hC6 HPA HC5 HX5 HL HBA HB1 HB5
    simp only at HC6 ⊢
    go_wp2_with ((with_reducible refine gate_builtin (b := .append) (xs := #[.tmp 27, .tmp 28]) rfl ?_); at_builtin; refine Kd.R_append_rows (Kd.int .u8) (w0 := w6) w6.heap.size rfl (.tmp 27) (.tmp 28) 27 5 (.int .u8 0) 1 rfl Try.underlying27 info5 rfl (by decide) (by decide) (.slice (some ⟨w6.heap.size, 0, none⟩) 0 0) [] bs _ _ _ (fun k => w6.heap.size ≤ k) (fun _ => False) rfl rfl ?aO ?aR (fun _ _ h => h) (fun _ hk => hk.elim) ?aF ?aB ?aS ?aL ?_; (case aO => exact HL6.out); (case aR => exact Kd.C_below HC.out (HB6.out.trans (HBA6.out.mono HB6.out.size))); (case aF => exact fun k hk => Nat.le_trans HBA6.out.size hk); (case aB => exact HBA6.out); (case aS => exact HBA6.out.size); (case aL => simp; omega); intro v7 w7 ho hb hg hat; obtain ⟨A7, c7, ev7, hc7, hC7⟩ := Kd.R_reads ho; subst ev7; have HB7 := Aside0.mk (HB6.out.trans (hb.mono HB6.out.size)); have HC7 := Aside0.mk (And.intro hc7 hC7); have HX7 := Aside0.mk hb; clear ho hb hg hat hc7 hC7)
    refine (HPR.out _ _ w7 HC7.out.2 HC7.out.1).mono ?_
    rintro e w8 ⟨hB, A8, c8, rfl, hc8, hC8⟩
    have HB8 := Aside0.mk (HB7.out.trans (hB.mono HB7.out.size))
    have HC6 := Aside0.mk (And.intro HC6.out.1 (Kd.C_below HC6.out.2 (HX7.out.trans (hB.mono HX7.out.size))))
    have HC8 := Aside0.mk (And.intro hc8 hC8)
    clear hB hc8 hC8 HPR HC7 HX7 HL6 HBA6 HB6 HB7
    simp only at HC6 HC8 ⊢
    go_wp2_with fail
    refine (HRA.out w8 HB8.out).mono ?_
    rintro e w9 ⟨hB, A9, c9, rfl, hc9, hC9⟩
    have HB9 := Aside0.mk (HB8.out.trans (hB.mono HB8.out.size))
    have HC6 := Aside0.mk (And.intro HC6.out.1 (Kd.C_below HC6.out.2 hB))
    have HC8 := Aside0.mk (And.intro HC8.out.1 (Kd.C_below HC8.out.2 hB))
    have HC9 := Aside0.mk (And.intro hc9 hC9)
    clear hB hc9 hC9 HRA HB8
    simp only at HC9 ⊢
    go_wp2_with fail
    refine (HRR.out w9 HB9.out).mono ?_
    rintro e w10 ⟨hB, A10, c10, rfl, hc10, hC10⟩
    have HB10 := Aside0.mk (HB9.out.trans (hB.mono HB9.out.size))
    have HC6 := Aside0.mk (And.intro HC6.out.1 (Kd.C_below HC6.out.2 hB))
    have HC8 := Aside0.mk (And.intro HC8.out.1 (Kd.C_below HC8.out.2 hB))
    have HC9 := Aside0.mk (And.intro HC9.out.1 (Kd.C_below HC9.out.2 hB))
    have HC10 := Aside0.mk (And.intro hc10 hC10)
    clear hB hc10 hC10 HRR HB9
    simp only at HC10 ⊢
    have hpp : (pe != pe) = false := by simp
    have hqq : (qe != qe) = false := by simp
    go_wp2_with fail
    refine (orders_calls2 px HPL.out A6 A9 c6 c9 w10 HC6.out.2 HC6.out.1 HC9.out.2 HC9.out.1).mono ?_
    rintro e w11 ⟨rfl, hB⟩
    have HB11 := Aside0.mk (HB10.out.trans (hB.mono HB10.out.size))
    have HC6 := Aside0.mk (And.intro HC6.out.1 (Kd.C_below HC6.out.2 hB))
    have HC8 := Aside0.mk (And.intro HC8.out.1 (Kd.C_below HC8.out.2 hB))
    have HC10 := Aside0.mk (And.intro HC10.out.1 (Kd.C_below HC10.out.2 hB))
    clear hB HC9 HB10
    go_wp2_with fail
    refine (reports_calls2 qx HRL.out A8 A10 c8 c10 w11 HC8.out.2 HC8.out.1 HC10.out.2 HC10.out.1).mono ?_
    rintro e w12 ⟨rfl, hB⟩
    have HB12 := Aside0.mk (HB11.out.trans (hB.mono HB11.out.size))
    have HC6 := Aside0.mk (And.intro HC6.out.1 (Kd.C_below HC6.out.2 hB))
    have HC8 := Aside0.mk (And.intro HC8.out.1 (Kd.C_below HC8.out.2 hB))
    clear hB HC10 HB11 hpp hqq
    have HDR : Aside0 (Below w12.heap.size w12 w12.drew) := ⟨(Below.refl _ _).drew⟩
    have HK : Aside0 (∀ W', Below w12.heap.size w12 W' → (convert 27 9 (.slice A bs.length c)).run Try.prog W' = .ok (.string (strOfNums bs)) W') := ⟨fun W' hB => run_str (P := Try.prog) Try.underlying27 Try.underlying5 Try.underlying9 (Kd.C_below HC.out (HB12.out.trans (hB.mono HB12.out.size))) c⟩
    by_cases hp : pe = 0
    · have hq : qe ≠ 0 := fun h => HNB.out ⟨hp, h⟩
      have b1 : (pe == 0) = true := by simpa using hp
      have b1' : (pe != 0) = false := by simpa using hp
      have b2 : (qe == 0) = false := by simpa using hq
      have b2' : (qe != 0) = true := by simpa using hq
      have HF := HPC.out hp
      have HCB := Aside0.mk (fun W (hB : Below w12.heap.size w12 W) => Lg.Bytes_calls px A6 c6 W (Kd.C_below HC6.out.2 hB) HC6.out.1 HPL.out)
      rw [HF] at HCB
      clear hp hq HF HNB HPC HRC
      go_wp2_with fail
      first | (go_region_held (fun w' => (convert 27 9 (.slice A bs.length c)).run Try.prog w' = .ok (.string (strOfNums bs)) w') (first | exact HK.out _ HB13.out | exact HK.out _ HDR.out)
        (first | (go_at_call 48; refine (HCB.out _ HDR.out).mono ?_; rintro e w13 ⟨A13, c13, rfl, hc13, hC13, hB13⟩; have s13 := run_str (P := Try.prog) Try.underlying27 Try.underlying5 Try.underlying9 hC13 c13; have HB13 : Aside0 (Below w12.heap.size w12 w13) := ⟨HDR.out.trans hB13⟩; clear hC13 hB13 hc13))) | fail
      all_goals
        go_wp2_with fail
        go_ret
        exact ⟨rfl, HB12.out.trans (HB13.out.mono HB12.out.size)⟩
    · have b1 : (pe == 0) = false := by simpa using hp
      have b1' : (pe != 0) = true := by simpa using hp
      by_cases hq : qe = 0
      · have b2 : (qe == 0) = true := by simpa using hq
        have b2' : (qe != 0) = false := by simpa using hq
        have HF := HRC.out hq
        have HCB := Aside0.mk (fun W (hB : Below w12.heap.size w12 W) => Lg.ReportBytes_calls qx A8 c8 W (Kd.C_below HC8.out.2 hB) HC8.out.1 HRL.out)
        rw [HF] at HCB
        clear hp hq HF HNB HPC HRC
        go_wp2_with fail
        first | (go_region_held (fun w' => (convert 27 9 (.slice A bs.length c)).run Try.prog w' = .ok (.string (strOfNums bs)) w') (first | exact HK.out _ HB13.out | exact HK.out _ HDR.out)
          (first | (go_at_call 49; refine (HCB.out _ HDR.out).mono ?_; rintro e w13 ⟨A13, c13, rfl, hc13, hC13, hB13⟩; have s13 := run_str (P := Try.prog) Try.underlying27 Try.underlying5 Try.underlying9 hC13 c13; have HB13 : Aside0 (Below w12.heap.size w12 w13) := ⟨HDR.out.trans hB13⟩; clear hC13 hB13 hc13))) | fail
        all_goals
          go_wp2_with fail
          go_ret
          exact ⟨rfl, HB12.out.trans (HB13.out.mono HB12.out.size)⟩
      · have b2 : (qe == 0) = false := by simpa using hq
        have b2' : (qe != 0) = true := by simpa using hq
        clear hp hq HNB HPC HRC
        go_wp2_with fail
        clear HC6 HC8 HK HX HC
        go_big_quiet (fail)
        have HB13 : Aside0 (Below w12.heap.size w12 (w12.drewN nq)) := ⟨(show Drawn0 w12 (w12.drewN nq) from ⟨nq, rfl⟩).below⟩
        go_wp2_with fail
        go_ret
        exact ⟨rfl, HB12.out.trans (HB13.out.mono HB12.out.size)⟩
  · have hI : (1000 : Int) < (bs.length : Int) := by omega
    clear h1000
    go_enter Try.func13, Try.ntmps13
    go_wp2_with fail
    refine (OfP.awake_calls _).mono ?_
    rintro e w1 ⟨rfl, hB⟩
    have HB1 := Aside0.mk hB
    clear hB
    go_wp2_with fail
    refine (OfP.awake_calls _).mono ?_
    rintro e w2 ⟨rfl, hB⟩
    have HB2 := Aside0.mk (HB1.out.trans (hB.mono HB1.out.size))
    clear hB
    go_wp2_with fail
    go_ret
    exact ⟨rfl, HB2.out⟩
end Go.Proofs.Ytcdlccnpbhjgkaa.Oo
