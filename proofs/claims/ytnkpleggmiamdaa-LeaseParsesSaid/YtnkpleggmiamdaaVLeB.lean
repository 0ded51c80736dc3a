/- Kept of the text LeB: what is reached (wip/tools/prune.py). -/
import Derived.Test.YtnkpleggmiamdaaVLeA
namespace Go.Proofs.Ytnkpleggmiamdaa.Le
open Go.RowKit Go.Maps Go.Proofs.YtnkpleggmiamdaaW.PrintWords Go.Proofs.YtnkpleggmiamdaaW.PrintLast Go.Proofs.YtnkpleggmiamdaaW.PrintMore
open Go.Proofs.Ytnkpleggmiamdaa.PLeaseFull Go.Proofs.Ytnkpleggmiamdaa.Mp
set_option linter.unusedVariables false
set_option linter.unusedSimpArgs false
theorem right_calls (c o : Int) (w : World) : Calls Try.prog 76 #[.int .i64 c, .int .i64 o] w fun e w' => e = .returned (.bool (rightB c o)) ∧ ∃ n, w' = w.drewN n :=
  (lease_right.calls c o (rightB c o) w (right_at c o)).mono fun e w' ⟨he, hd⟩ => ⟨he, hd.out⟩
theorem chk_ok {M : Tab} {o : Int} : ∀ {cs seen : List Int}, chk M o seen cs = 0 → ∀ c ∈ cs, rightB c o = true ∧ get M c = 0
  | [], _, _, _, h => by cases h
  | c :: r, seen, h, x, hx => by
    unfold chk at h
    split at h
    · cases h
    · next h1 =>
      split at h
      · cases h
      · next h2 =>
        rcases List.mem_cons.1 hx with rfl | hx
        · exact ⟨by simpa using h1, by rcases Classical.em (get M x = 0) with e | e; exact e; exact absurd (.inl e) h2⟩
        · exact chk_ok h x hx
theorem rightB_wf {c o : Int} (h : rightB c o = true) : (Lit.int .i64 c).wf = true := by
  have := of_decide_eq_true h
  simp [Lit.wf, IntKind.min, IntKind.max, IntKind.signed, IntKind.bits]
  omega
set_option maxHeartbeats 2000000 in
set_option maxRecDepth 100000 in
theorem grant_calls (p bm : Nat) (bud : Int) (M : Tab) (o : Int) (A : Option Addr) (c : Nat) (cs : List Int) (w : World) (h : LedIs w p bm bud M) (hC : (Kd.int .i64).C w A cs.length cs) (hcap : cs.length ≤ c) (hA : ∀ k, AtB A k → k ≠ bm) (hb : 0 ≤ bud ∧ bud ≤ 65535) (hM : M.length ≤ 100000) (hl : cs.length ≤ 100000) :
    Calls Try.prog 49 #[.pointer (some ⟨p, 0, none⟩), .int .i64 o, .slice A cs.length c] w fun e w' => e = .returned (.int .i64 (grantE bud M o cs)) ∧ LedIs w' p bm bud (grantM bud M o cs) ∧ Fr1 w w' bm := by
  have H := Aside0.mk h
  have HC := Aside0.mk hC
  have HCAP := Aside0.mk hcap
  have HA := Aside0.mk hA
  have HBM := Aside0.mk (And.intro hb hM)
  clear h hC hA hb hM hcap
  go_enter Try.func49, Try.ntmps49
  go_wp2_with fail
  refine (right_calls 0 o w).mono ?_
  rintro e w1 ⟨rfl, n1, rfl⟩
  have H1 : Aside0 (LedIs (w.drewN n1) p bm bud M) := ⟨H.out.below (pw_below_drewN (Below.refl _ _) _)⟩
  have HF1 : Aside0 (Fr1 w (w.drewN n1) bm) := ⟨Fr1.of_below bm (pw_below_drewN (Below.refl _ _) _)⟩
  generalize w.drewN n1 = w1 at H1 HF1 ⊢
  cases hr : rightB 0 o with
  | false =>
    have HE : Aside0 (grantE bud M o cs = 2) := ⟨by unfold grantE; rw [if_pos (.inl hr)]⟩
    clear hr
    go_wp2_with fail
    go_ret
    unfold grantM
    rw [HE.out, if_neg (by decide)]
    exact ⟨rfl, H1.out, HF1.out⟩
  | true =>
    have hro := of_decide_eq_true hr
    obtain ⟨_, _, ho1, ho2⟩ := hro
    have e1 : wrap64 (1099511627776 - o) = 1099511627776 - o := by unfold wrap64; omega
    have E1 := Aside0.mk e1
    have HR := Aside0.mk hr
    by_cases hbig : 1099511627776 - o ≤ (cs.length : Int)
    · have hb : decide (1099511627776 - o ≤ (cs.length : Int)) = true := decide_eq_true hbig
      have HE : Aside0 (grantE bud M o cs = 2) := ⟨by unfold grantE; rw [if_pos (.inr hbig)]⟩
      clear hr hbig
      go_wp2_with fail
      go_ret
      unfold grantM
      rw [HE.out, if_neg (by decide)]
      exact ⟨rfl, H1.out, HF1.out⟩
    · have hb : decide (1099511627776 - o ≤ (cs.length : Int)) = false := decide_eq_false hbig
      have HE : Aside0 (grantE bud M o cs = if chk M o [] cs ≠ 0 then chk M o [] cs else if bud - (M.length : Int) < (cs.length : Int) then 121 else 0) := ⟨by
        conv => lhs; unfold grantE
        rw [if_neg (by rintro (h | h); rw [hr] at h; cases h; exact hbig h)]⟩
      clear hr e1
      go_wp2_with fail
      clear hb hbig
      go_loopg [7, 8, 23, 28, 33] cs.length (fun kq v7 v8 v23 v28 v33 wr => ∃ i : Nat, v23 = .int .i64 i ∧ i + kq = cs.length ∧ Aside0 (chk M o (cs.take i) (cs.drop i) = chk M o [] cs) ∧ Aside0 (LedIs wr p bm bud M) ∧ Aside0 (Fr1 w wr bm))
      case atStart => exact ⟨0, rfl, by omega, ⟨rfl⟩, H1, HF1⟩
      case round =>
        clear H1 HF1
        obtain ⟨i, rfl, hi, HK, HL, HF⟩ := hrel
        by_cases hlt : i < cs.length
        · have hlt' : (i : Int) < (cs.length : Int) := by omega
          obtain ⟨ad, rfl, x0⟩ := Kd.at_int (C_fr1 HC.out HF.out HA.out) i (by omega) hlt'
          simp only [Int.toNat_natCast] at x0
          have HK2 : Aside0 (chk M o [] cs = if rightB (rd cs i) o = false then 2 else if get M (rd cs i) ≠ 0 ∨ rd cs i ∈ cs.take i then 120 else chk M o (cs.take (i + 1)) (cs.drop (i + 1))) := ⟨by
            have er : rd cs (i : Int) = cs[i] := by simp [rd, hlt]
            rw [← HK.out, List.drop_eq_getElem_cons hlt, er, List.take_succ_eq_append_getElem hlt]
            rfl⟩
          generalize rd cs (i : Int) = k at x0 HK2
          go_wp2_with fail
          refine (right_calls k o wr).mono ?_
          rintro e w2 ⟨rfl, n2, rfl⟩
          have HL2 : Aside0 (LedIs (wr.drewN n2) p bm bud M) := ⟨HL.out.below (pw_below_drewN (Below.refl _ _) _)⟩
          have HF2 : Aside0 (Fr1 w (wr.drewN n2) bm) := ⟨HF.out.below (pw_below_drewN (Below.refl _ _) _)⟩
          generalize wr.drewN n2 = w2 at HL2 HF2 ⊢
          clear x0 HL HF
          cases hrk : rightB k o with
          | false =>
            have HCH : Aside0 (chk M o [] cs = 2) := ⟨by rw [HK2.out, if_pos hrk]⟩
            have HE2 : Aside0 (grantE bud M o cs = 2) := ⟨by rw [HE.out, HCH.out]; rfl⟩
            clear hrk
            go_wp2_with fail
            go_ret
            unfold grantM
            rw [HE2.out, if_neg (by decide)]
            exact ⟨rfl, HL2.out, HF2.out⟩
          | true =>
            obtain ⟨c0, c1⟩ := HL2.out.cells
            have hlk := run_get HL2.out.map k
            have HC77 := Aside0.mk (slices_Contains_int_int.calls (cs.take i).length.succ (some ad) c (cs.take i) k (decide (k ∈ cs.take i)) w2 (Kd.C_take (C_fr1 HC.out HF2.out HA.out) (by omega)) (by rw [List.length_take]; have := HCAP.out; omega) (contains_at _ _ (by rw [List.length_take]; omega)))
            rw [List.length_take, Nat.min_eq_left (by omega)] at HC77
            have hcap := HCAP.out
            rw [if_neg (by rw [hrk]; decide)] at HK2
            clear hrk
            by_cases hg : get M k = 0
            · have hgb : (get M k == 0) = true := by simpa using hg
              rw [hg] at hlk
              go_wp2_with fail
              refine HC77.out.mono ?_
              rintro e w3 ⟨rfl, hd⟩
              obtain ⟨n3, rfl⟩ := hd.out
              have HL3 : Aside0 (LedIs (w2.drewN n3) p bm bud M) := ⟨HL2.out.below (pw_below_drewN (Below.refl _ _) _)⟩
              have HF3 : Aside0 (Fr1 w (w2.drewN n3) bm) := ⟨HF2.out.below (pw_below_drewN (Below.refl _ _) _)⟩
              generalize w2.drewN n3 = w3 at HL3 HF3 ⊢
              clear hd c0 c1 hlk HL2 HF2 HC77
              by_cases hm : k ∈ cs.take i
              · have HCH : Aside0 (chk M o [] cs = 120) := ⟨by rw [HK2.out, if_pos (.inr hm)]⟩
                have HE2 : Aside0 (grantE bud M o cs = 120) := ⟨by rw [HE.out, HCH.out]; rfl⟩
                rw [decide_eq_true hm]
                clear hm
                go_wp2_with fail
                go_ret
                unfold grantM
                rw [HE2.out, if_neg (by decide)]
                exact ⟨rfl, HL3.out, HF3.out⟩
              · have HCH : Aside0 (chk M o (cs.take (i + 1)) (cs.drop (i + 1)) = chk M o [] cs) := ⟨by rw [HK2.out, if_neg (by rintro (h | h); exact h hg; exact hm h)]⟩
                rw [decide_eq_false hm]
                clear hm
                go_wp2_with fail
                go_roundg (gk - 1)
                case measure => omega
                case rel => exact ⟨i + 1, by go_num, by omega, HCH, HL3, HF3⟩
            · have hgb : (get M k == 0) = false := by simpa using hg
              have HCH : Aside0 (chk M o [] cs = 120) := ⟨by rw [HK2.out, if_pos (.inl hg)]⟩
              have HE2 : Aside0 (grantE bud M o cs = 120) := ⟨by rw [HE.out, HCH.out]; rfl⟩
              generalize get M k = gv at hlk hgb hg
              go_wp2_with fail
              go_ret
              unfold grantM
              rw [HE2.out, if_neg (by decide)]
              exact ⟨rfl, HL2.out, HF2.out⟩
        · have hie : i = cs.length := by omega
          have HZ : Aside0 (chk M o [] cs = 0) := ⟨by rw [← HK.out, List.drop_of_length_le (by omega)]; rfl⟩
          have HE2 : Aside0 (grantE bud M o cs = if bud - (M.length : Int) < (cs.length : Int) then 121 else 0) := ⟨by rw [HE.out, HZ.out, if_neg (by decide)]⟩
          clear hie HK
          go_wp2_with fail
          refine (left_calls p bm bud M wr HL.out HBM.out.1 HBM.out.2).mono ?_
          rintro e w2 ⟨rfl, hb2⟩
          have HL2 := Aside0.mk (HL.out.below hb2)
          have HF2 := Aside0.mk (HF.out.below hb2)
          clear hb2 HL HF
          by_cases hsp : bud - (M.length : Int) < (cs.length : Int)
          · have hb : decide (bud - (M.length : Int) < (cs.length : Int)) = true := decide_eq_true hsp
            rw [if_pos hsp] at HE2
            clear hsp
            go_wp2_with fail
            go_ret
            unfold grantM
            rw [HE2.out, if_neg (by decide)]
            exact ⟨rfl, HL2.out, HF2.out⟩
          · have hb : decide (bud - (M.length : Int) < (cs.length : Int)) = false := decide_eq_false hsp
            rw [if_neg hsp] at HE2
            clear hsp
            go_wp2_with fail
            clear hb
            go_loopg [9, 10, 56] cs.length (fun kq v9 v10 v56 wr => ∃ (j : Nat) (M1 : Tab), v56 = .int .i64 j ∧ j + kq = cs.length ∧ Aside0 (giveF o j (cs.drop j) M1 = giveF o 0 cs M) ∧ Aside0 (LedIs wr p bm bud M1) ∧ Aside0 (Fr1 w wr bm))
            case atStart => exact ⟨0, M, rfl, by omega, ⟨rfl⟩, HL2, HF2⟩
            case round =>
              clear HL2 HF2
              obtain ⟨j, M1, rfl, hj, HG, HL, HF⟩ := hrel
              by_cases hjl : j < cs.length
              · have hjl' : (j : Int) < (cs.length : Int) := by omega
                obtain ⟨ad, rfl, x0⟩ := Kd.at_int (C_fr1 HC.out HF.out HA.out) j (by omega) hjl'
                simp only [Int.toNat_natCast] at x0
                have er : rd cs (j : Int) = cs[j] := by simp [rd, hjl]
                have hwf : (Lit.int .i64 (rd cs (j : Int))).wf = true := rightB_wf (chk_ok HZ.out _ (by rw [er]; exact List.getElem_mem hjl)).1
                have HG2 : Aside0 (giveF o (j + 1) (cs.drop (j + 1)) (aput (rd cs (j : Int)) (o + j) M1) = giveF o 0 cs M) := ⟨by rw [← HG.out, List.drop_eq_getElem_cons hjl, er]; rfl⟩
                obtain ⟨c0, c1⟩ := HL.out.cells
                obtain ⟨w3, hu, hm3, hf3, hz⟩ := run_mapUpdate Try.underlying128 Try.underlying3 HL.out.map (rd cs (j : Int)) hwf (.int .i64 (o + j))
                rw [aput_map] at hm3
                have HL3 := Aside0.mk (HL.out.put hf3 hm3)
                have HF3 := Aside0.mk (HF.out.trans hf3)
                generalize rd cs (j : Int) = k at x0 hu HG2 HL3
                have e2 : wrap64 (o + (j : Int)) = o + j := by unfold wrap64; omega
                clear er hwf hm3 hf3 hz
                go_wp2_with fail
                go_roundg (cs.length - (j + 1))
                case measure => omega
                case rel => exact ⟨j + 1, _, by go_num, by omega, HG2, HL3, HF3⟩
              · have hg := HG.out
                rw [List.drop_of_length_le (by omega)] at hg
                have HM1 : Aside0 (M1 = giveF o 0 cs M) := ⟨hg⟩
                clear hg
                go_wp2_with fail
                go_ret
                unfold grantM
                rw [HE2.out, if_pos rfl, ← HM1.out]
                exact ⟨rfl, HL.out, HF.out⟩
end Go.Proofs.Ytnkpleggmiamdaa.Le
