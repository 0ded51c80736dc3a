/- Kept of the text LpB: what is reached (wip/tools/prune.py). -/
import Derived.Test.YtnkpleggmiamdaaVG7
import Derived.Test.YtnkpleggmiamdaaVG8
import Derived.BigQuiet
namespace Go.Proofs.Ytnkpleggmiamdaa.Lp
open Go.RowKit Go.Maps Go.Proofs.YtnkpleggmiamdaaW.PrintWords Go.Proofs.YtnkpleggmiamdaaW.PrintLast Go.Proofs.YtnkpleggmiamdaaW.PrintMore
open Go.Proofs.Ytnkpleggmiamdaa.PSessionParses (S105 z105 k105 rd_T105 at_T105)
open Go.Proofs.Ytnkpleggmiamdaa.Mo Go.Proofs.Ytnkpleggmiamdaa.Mp Go.Proofs.Ytnkpleggmiamdaa.Ke
open Go.Proofs.Ytnkpleggmiamdaa.Le (LedIs rightB)
set_option linter.unusedVariables false
set_option linter.unusedSimpArgs false
theorem new_err (n : Int) (w : World) (h : ¬ (1 ≤ n ∧ n ≤ 65535)) : Calls Try.prog 48 #[.int .i64 n] w fun e w' => e = .returned (.tuple #[.pointer none, .int .i64 2]) ∧ w' = w := by
  by_cases h1 : n < 1
  · go_enter Try.func48, Try.ntmps48
    go_wp2
    go_ret2
    exact ⟨rfl, rfl⟩
  · have h2 : 65535 < n := by omega
    go_enter Try.func48, Try.ntmps48
    go_wp2
    go_ret2
    exact ⟨rfl, rfl⟩
theorem rightB_min {c o : Int} (hc : 0 ≤ c) (ho : 0 ≤ o) : rightB (min c 1099511627776) (min o 1099511627776) = rightB c o := by
  unfold Le.rightB
  congr 1
  apply propext
  omega
theorem rd105 {xs : List S105} {i : Nat} (h : i < xs.length) : rd_T105 xs (i : Int) = xs[i] := by simp [rd_T105, h]
theorem prs_take {b x cc oo : S105} {i : Nat} (h : i < b.f2.length) (hx : b.f2[i] = x) (e : x.f2 = [cc, oo]) : (prs b).take (i + 1) = (prs b).take i ++ [(cc.f0, oo.f0)] := by
  have hl : i < (prs b).length := by simpa [prs] using h
  rw [List.take_succ_eq_append_getElem hl]
  congr 2
  simp only [prs, List.getElem_map, hx, pr, fst, snd, e]
  rfl
theorem goodF_bad {b x cc oo : S105} {i : Nat} (h : i < b.f2.length) (hx : b.f2[i] = x) (e : x.f2 = [cc, oo]) (hb : (rightB cc.f0 oo.f0 && decide (lastK (-1) ((prs b).take i) < cc.f0)) = false) : goodF (-1) (prs b) = false := by
  have e2 : prs b = (prs b).take (i + 1) ++ (prs b).drop (i + 1) := (List.take_append_drop _ _).symm
  rw [e2, prs_take h hx e, goodF_split, goodF_split]
  simp only [goodF, Bool.and_true]
  rw [hb, Bool.and_false, Bool.false_and]
theorem goodF_step {b x cc oo : S105} {i : Nat} (h : i < b.f2.length) (hx : b.f2[i] = x) (e : x.f2 = [cc, oo]) (hg : goodF (-1) ((prs b).take i) = true) (hb : (rightB cc.f0 oo.f0 && decide (lastK (-1) ((prs b).take i) < cc.f0)) = true) : goodF (-1) ((prs b).take (i + 1)) = true := by
  rw [prs_take h hx e, goodF_split]
  simp only [goodF, Bool.and_true]
  rw [hg, hb]; rfl
theorem lastK_max : ∀ {l : Int} {rows : List (Int × Int)}, goodF l rows = true → ∀ p ∈ rows, p.1 ≤ lastK l rows
  | _, [], _, p, hp => by cases hp
  | l, q :: r, h, p, hp => by
    simp only [goodF, Bool.and_eq_true, decide_eq_true_eq] at h
    simp only [lastK]
    rcases List.mem_cons.1 hp with rfl | hp
    · cases r with
      | nil => exact Int.le_refl _
      | cons a r =>
        have h2 := h.2
        simp only [goodF, Bool.and_eq_true, decide_eq_true_eq] at h2
        have := lastK_max h.2 a (by simp)
        omega
    · exact lastK_max h.2 p hp
theorem alook_rise {rows : List (Int × Int)} (hg : goodF (-1) rows = true) {c : Int} (hc : lastK (-1) rows < c) : alook c rows = none := by
  apply alook_none_of
  intro hm
  obtain ⟨p, hp, rfl⟩ := List.mem_map.1 hm
  have := lastK_max hg p hp
  omega
def ParseQ (r : Option (Int × List (Int × Int)) × Int) (w : World) (e : Ending) (w' : World) : Prop :=
  Below w.heap.size w w' ∧ ((r.1 = none ∧ e = .returned (.tuple #[.pointer none, .int .i64 r.2])) ∨
    ∃ bud rows p bm, r.1 = some (bud, rows) ∧ e = .returned (.tuple #[.pointer (some ⟨p, 0, none⟩), .int .i64 r.2]) ∧ LedIs w' p bm bud rows ∧ w.heap.size ≤ p ∧ w.heap.size ≤ bm)
theorem add_k (ad : Addr) (k : Nat) (hk : 0 < k) : ad.add k = ⟨ad.block, ad.off + k, none⟩ := by
  have h0 : ad.add 0 = ad := by simp [Addr.add]
  have := add_field ad 0 k hk
  rw [h0, Nat.zero_add] at this
  exact this
theorem at_two {w : World} {A : Option Addr} {x y : S105} (h : k105.C w A 2 [x, y]) : ∃ ad A1 c1 A2 c2 B1 d1 B2 d2, A = some ad ∧ w.cell? ad = some (.int .u64 x.f0) ∧ w.cell? ⟨ad.block, ad.off + 1, none⟩ = some (.slice A1 x.f1.length c1) ∧ w.cell? ⟨ad.block, ad.off + 2, none⟩ = some (.slice A2 x.f2.length c2) ∧
    w.cell? ⟨ad.block, ad.off + 3, none⟩ = some (.int .u64 y.f0) ∧ w.cell? ⟨ad.block, ad.off + 4, none⟩ = some (.slice B1 y.f1.length d1) ∧ w.cell? ⟨ad.block, ad.off + 5, none⟩ = some (.slice B2 y.f2.length d2) ∧ y.f2.length ≤ d2 ∧ k105.C w B2 y.f2.length y.f2 := by
  obtain ⟨ad, A1, c1, A2, c2, e, h0, h1, h2, _⟩ := at_T105 h 0 (by omega) (by omega)
  obtain ⟨ad', B1, d1, B2, d2, e', g0, g1, g2, _, _, l, g⟩ := at_T105 h 1 (by omega) (by omega)
  subst e
  cases e'
  have e0 : ad.add ((0 : Int).toNat * 3) = ad := by simp [Addr.add]
  have e1 : ad.add ((1 : Int).toNat * 3) = ⟨ad.block, ad.off + 3, none⟩ := add_k ad 3 (by decide)
  rw [e0] at h0 h1 h2
  rw [e1] at g0 g1 g2
  exact ⟨ad, A1, c1, A2, c2, B1, d1, B2, d2, rfl, h0, h1, h2, g0, g1, g2, l, g⟩
theorem parse_err {bs : List Int} (h : (takeTop shL bs).2 ≠ 0) : parseL bs = (none, (takeTop shL bs).2) := by unfold parseL; rw [if_pos h]
theorem parse_of {bs : List Int} {v a b : S105} (h : takeTop shL bs = (v, 0)) (hr : Rows v a b) :
    parseL bs = if ¬ (1 ≤ a.f0 ∧ a.f0 ≤ 65535) ∨ a.f0 < b.f2.length then (none, 13) else if goodF (-1) (prs b) then (some (a.f0, prs b), 0) else (none, 13) := by
  unfold parseL
  rw [h, if_neg (fun e => e rfl)]
  have ea : fst v = a := by simp [fst, hr.two]
  have eb : snd v = b := by simp [snd, hr.two]
  simp only [ea, eb]
  simp [prs]
set_option maxHeartbeats 4000000 in
set_option maxRecDepth 100000 in
theorem parse_calls (bs : List Int) (A : Option Addr) (c : Nat) (w : World) (hC : (Kd.int .u8).C w A bs.length bs) (hc : bs.length ≤ c) (hx : Byt bs) (hl : bs.length ≤ 100000) :
    Calls Try.prog 54 #[.slice A bs.length c] w (ParseQ (parseL bs) w) := by
  have HT := Aside0.mk (taketop_calls shL bs A c w hC hc hx (by omega))
  have HTL := Aside0.mk (fun v h => top_le (v := v) hx h)
  obtain ⟨⟨v, er⟩, hv⟩ : ∃ q, takeTop shL bs = q := ⟨_, rfl⟩
  have HPE := Aside0.mk (parse_err (bs := bs))
  have HPO := Aside0.mk (fun v a b => parse_of (bs := bs) (v := v) (a := a) (b := b))
  rw [hv] at HT HTL HPE HPO
  have HV := Aside0.mk hv
  obtain ⟨res, hres⟩ : ∃ res, parseL bs = res := ⟨_, rfl⟩
  rw [hres] at HPE HPO ⊢
  have HBL := Aside0.mk hl
  clear hC hx hres hv hl
  go_enter Try.func54, Try.ntmps54
  go_wp2_with fail
  refine Calls.mono HT.out ?_
  rintro E w1 hq
  obtain ⟨hB, A3, c3, A4, c4, rfl, hc3, hC3, hc4, hC4⟩ := take_ok hq
  simp only at hc3 hC3 hc4 hC4 ⊢
  have HB1 := Aside0.mk hB
  have HC4 := Aside0.mk hC4
  have K4 := Aside0.mk (blk_new w1 (.cells #[.int .u64 v.f0, .slice A3 v.f1.length c3, .slice A4 v.f2.length c4] 105))
  have HBN : Aside0 (Below w1.heap.size w1 (w1.alloc (.cells #[.int .u64 v.f0, .slice A3 v.f1.length c3, .slice A4 v.f2.length c4] 105))) := ⟨(Below.refl _ _).alloc (Nat.le_refl _) _⟩
  clear hq hB hc3 hC3 hC4 HT
  by_cases he : er = 0
  · subst he
    obtain ⟨⟨a, b, hr⟩, hp, hw, hts⟩ := HTL.out v rfl
    have HPO := Aside0.mk (HPO.out v a b rfl hr)
    have e2 : v.f2.length = 2 := by rw [hr.two]; rfl
    have HC4 : Aside0 (k105.C w1 A4 2 [a, b]) := ⟨by have h := HC4.out; rw [hr.two] at h; exact h⟩
    have hwa := wf_u (wf_in hw (y := a) (by rw [hr.two]; simp))
    have hwb : WfS b := wf_in hw (y := b) (by rw [hr.two]; simp)
    have HWB : Aside0 (∀ x ∈ b.f2, ∃ c o, x.f2 = [c, o] ∧ (0 ≤ c.f0 ∧ c.f0 < 18446744073709551616) ∧ (0 ≤ o.f0 ∧ o.f0 < 18446744073709551616)) := ⟨fun x hx => by
      obtain ⟨c, o, e⟩ := hr.row x hx
      have hwx := wf_in hwb hx
      exact ⟨c, o, e, wf_u (wf_in hwx (y := c) (by rw [e]; simp)), wf_u (wf_in hwx (y := o) (by rw [e]; simp))⟩⟩
    rw [e2] at K4 HBN ⊢
    clear hts hp hw hwb hr e2 HTL HPE
    obtain ⟨ad, A1, c1, A2, c2, B1, d1, B2, d2, rfl, y0, y1, y2, y3, y4, y5, hl2, g2⟩ := at_two HC4.out
    obtain ⟨bv, hbv⟩ : ∃ bv, w1.heap.size = bv := ⟨_, rfl⟩
    obtain ⟨w2, hw2⟩ : ∃ w2, w1.alloc (.cells #[.int .u64 v.f0, .slice A3 v.f1.length c3, .slice (some ad) 2 c4] 105) = w2 := ⟨_, rfl⟩
    rw [hw2, hbv] at K4
    rw [hw2] at HBN
    have K4c2 : w2.cell? ⟨bv, 2, none⟩ = some (.slice (some ad) 2 c4) := (blk_cell K4.out 2).trans rfl
    have z0 : w2.cell? ad = some (.int .u64 a.f0) := (HBN.out.cell (cell_lt y0)).trans y0
    by_cases hbud : 1 ≤ a.f0 ∧ a.f0 ≤ 65535
    · have hm : min a.f0 1099511627776 = a.f0 := by omega
      go_wp2_with fail
      refine (Le.new_calls a.f0 w2 hbud).mono ?_
      rintro e w3 ⟨p, bm, rfl, hL, hp, hbm, hB3⟩
      have HL := Aside0.mk hL
      have HS : Aside0 (w2.heap.size ≤ p ∧ w2.heap.size ≤ bm) := ⟨hp, hbm⟩
      have HB2 : Aside0 (Below w.heap.size w w2) := ⟨HB1.out.trans (HBN.out.mono HB1.out.size)⟩
      have HB3 := Aside0.mk hB3
      have HG2 : Aside0 (k105.C w2 B2 b.f2.length b.f2) := ⟨Kd.C_below g2 HBN.out⟩
      have u5 : w2.cell? ⟨ad.block, ad.off + 5, none⟩ = some (.slice B2 b.f2.length d2) := (HBN.out.cell (cell_lt y5)).trans y5
      have u5' : w3.cell? ⟨ad.block, ad.off + 5, none⟩ = some (.slice B2 b.f2.length d2) := (HB3.out.cell (cell_lt u5)).trans u5
      have k2' : w3.cell? ⟨bv, 2, none⟩ = some (.slice (some ad) 2 c4) := (HB3.out.cell (cell_lt K4c2)).trans K4c2
      have p0 : w3.cell? ⟨p, 0, none⟩ = some (.int .i64 a.f0) := hL.cells.1
      have HU : Aside0 (w2.cell? ⟨ad.block, ad.off + 5, none⟩ = some (.slice B2 b.f2.length d2) ∧ w2.cell? ⟨bv, 2, none⟩ = some (.slice (some ad) 2 c4)) := ⟨u5, K4c2⟩
      have hlm : b.f2.length ≤ 9223372036854775807 := HG2.out.2.1
      clear hL hp hbm hB3 g2 u5 K4c2 y0 y1 y2 y3 y4 y5 z0 HC4 K4 hw2 HBN hwa hbv
      go_wp2_with fail
      go_big_quiet (fail)
      by_cases hlen : a.f0 < (b.f2.length : Int)
      · go_wp2_with fail
        go_ret2
        rw [HPO.out, if_pos (.inr hlen)]
        exact ⟨pw_below_drewN (HB2.out.trans (HB3.out.mono HB2.out.size)) _, .inl ⟨rfl, rfl⟩⟩
      · have hpo : res = if goodF (-1) (prs b) then (some (a.f0, prs b), 0) else (none, 13) := by rw [HPO.out, if_neg (fun h => by rcases h with h | h <;> omega)]
        replace HPO := Aside0.mk hpo
        clear hpo
        go_wp2_with fail
        go_loopg [7, 9, 10, 11, 52] b.f2.length (fun kq v7 v9 v10 v11 v52 wr => ∃ (i : Nat), v52 = .int .i64 i ∧ v7 = .int .i64 (lastK (-1) ((prs b).take i)) ∧ i + kq = b.f2.length ∧ Aside0 (goodF (-1) ((prs b).take i) = true) ∧ Aside0 (LedIs wr p bm a.f0 ((prs b).take i)) ∧ Aside0 (Below w2.heap.size w2 wr))
        case atStart => exact ⟨0, rfl, rfl, by omega, ⟨rfl⟩, ⟨HL.out.below (pw_below_drewN (Below.refl _ _) _)⟩, ⟨pw_below_drewN HB3.out _⟩⟩
        case round =>
          clear HL HB3 u5' k2' p0
          obtain ⟨i, rfl, rfl, hi, HGD, HL, HB⟩ := hrel
          by_cases hlt : i < b.f2.length
          · have hlt' : (i : Int) < (b.f2.length : Int) := by omega
            obtain ⟨ad2, X1, x1, X2, x2, rfl, y0, y1, y2, _, _, l2, g2⟩ := at_T105 (Kd.C_below HG2.out HB.out) i (by omega) hlt'
            rw [rd105 hlt] at y0 y1 y2 l2 g2
            simp only [Int.toNat_natCast] at y0 y1 y2
            obtain ⟨x, hx⟩ : ∃ x, b.f2[i] = x := ⟨_, rfl⟩
            obtain ⟨cc, oo, hxf, hcc, hoo⟩ := HWB.out x (by rw [← hx]; exact List.getElem_mem hlt)
            rw [hx, hxf] at y2 l2 g2
            rw [hx] at y0 y1
            have g2 : k105.C wr X2 2 [cc, oo] := g2
            have y2 : wr.cell? ⟨(ad2.add (i * 3)).block, (ad2.add (i * 3)).off + 2, none⟩ = some (.slice X2 2 x2) := y2
            obtain ⟨adx, C1, n1, C2, n2, D1, m1, D2, m2, rfl, q0, q1, q2, q3, q4, q5, _, _⟩ := at_two g2
            have HBAD := Aside0.mk (goodF_bad hlt hx hxf)
            have HSTEP := Aside0.mk (goodF_step hlt hx hxf HGD.out)
            have HTK := Aside0.mk (prs_take hlt hx hxf)
            have HRM := Aside0.mk (rightB_min hcc.1 hoo.1)
            have HRISE := Aside0.mk (alook_rise (c := cc.f0) HGD.out)
            obtain ⟨b9, hb9⟩ : ∃ b9, wr.heap.size = b9 := ⟨_, rfl⟩
            obtain ⟨w4, hw4⟩ : ∃ w4, wr.alloc (.cells #[.int .u64 x.f0, .slice X1 x.f1.length x1, .slice (some adx) 2 x2] 105) = w4 := ⟨_, rfl⟩
            have HB4 : Aside0 (Below wr.heap.size wr w4) := ⟨by rw [← hw4]; exact (Below.refl _ _).alloc (Nat.le_refl _) _⟩
            have b9c2 : w4.cell? ⟨b9, 2, none⟩ = some (.slice (some adx) 2 x2) := by rw [← hb9, ← hw4]; exact (blk_cell (blk_new wr _) 2).trans rfl
            have r0 : w4.cell? adx = some (.int .u64 cc.f0) := (HB4.out.cell (cell_lt q0)).trans q0
            have r3 : w4.cell? ⟨adx.block, adx.off + 3, none⟩ = some (.int .u64 oo.f0) := (HB4.out.cell (cell_lt q3)).trans q3
            have HL4 := Aside0.mk (HL.out.below HB4.out)
            have p1 : w4.cell? ⟨p, 1, none⟩ = some (.map (some bm)) := HL4.out.cells.2
            clear l2 g2 q0 q1 q2 q3 q4 q5 hx hxf
            go_wp2_with fail
            go_big_quiet (fail)
            go_wp2_with fail
            refine (Le.right_calls _ _ _).mono ?_
            rintro e w5 ⟨rfl, nd, hw5⟩
            rw [HRM.out]
            have HB5 : Aside0 (Below wr.heap.size wr w5) := ⟨by rw [hw5]; exact pw_below_drewN (pw_below_drewN HB4.out _) _⟩
            have HL5 := Aside0.mk (HL.out.below HB5.out)
            have HBW : Aside0 (Below w.heap.size w w5) := ⟨HB2.out.trans ((HB.out.trans (HB5.out.mono HB.out.size)).mono HB2.out.size)⟩
            have p1 : w5.cell? ⟨p, 1, none⟩ = some (.map (some bm)) := HL5.out.cells.2
            clear b9c2 r0 r3 HL4 HB4 hw4 hw5 y0 y1 y2 hb9 HRM
            cases hrb : rightB cc.f0 oo.f0 with
            | false =>
              have hbad := HBAD.out (by rw [hrb]; rfl)
              clear hrb
              go_wp2_with fail
              go_ret2
              rw [HPO.out, if_neg (by rw [hbad]; decide)]
              exact ⟨HBW.out, .inl ⟨rfl, rfl⟩⟩
            | true =>
              have hrt := of_decide_eq_true hrb
              have hmc : min cc.f0 1099511627776 = cc.f0 := by omega
              have hmo : min oo.f0 1099511627776 = oo.f0 := by omega
              rw [hmc, hmo]
              by_cases hl : lastK (-1) ((prs b).take i) < cc.f0
              · have HG2 := Aside0.mk (HSTEP.out (by rw [hrb, decide_eq_true hl]; rfl))
                have hal : alook cc.f0 (amap (Value.int .i64) ((prs b).take i)) = none := by rw [alook_map, HRISE.out hl]; rfl
                obtain ⟨st, w6, hme, HF6, hz6, hes⟩ := run_mapEntry Try.underlying128 Try.underlying3 HL5.out.map cc.f0 (Le.rightB_wf hrb) hal (Le.zeroI w5)
                obtain ⟨w7, hes7, HM7, HF7, hz7⟩ := hes w6 (.int .i64 oo.f0) rfl
                rw [aput_map, aput_new _ (HRISE.out hl), ← HTK.out] at HM7
                have HL7 : Aside0 (LedIs w7 p bm a.f0 ((prs b).take (i + 1))) := ⟨HL5.out.put (HF6.trans HF7) HM7⟩
                have HB7 : Aside0 (Below w2.heap.size w2 w7) := ⟨(HB.out.trans (HB5.out.mono HB.out.size)).trans ((HF6.trans HF7).to_below HS.out.2 (Nat.le_trans HB.out.size HB5.out.size))⟩
                have HLK : Aside0 (lastK (-1) ((prs b).take (i + 1)) = cc.f0) := ⟨by rw [HTK.out, lastK_snoc]⟩
                have hnl : ¬ (cc.f0 ≤ lastK (-1) ((prs b).take i)) := by omega
                clear hes HM7 HF6 HF7 hz6 hz7 hal hl hrb hrt HL5 HBW HL HGD HRISE HTK HSTEP HBAD
                generalize lastK (-1) ((prs b).take i) = lk at hnl ⊢
                go_wp2_with fail
                go_roundg (b.f2.length - (i + 1))
                case measure => omega
                case rel => exact ⟨i + 1, by go_num, by rw [HLK.out], by omega, HG2, HL7, HB7⟩
              · have hbad := HBAD.out (by rw [hrb, decide_eq_false hl]; rfl)
                have hnl : cc.f0 ≤ lastK (-1) ((prs b).take i) := by omega
                clear hrb hrt hl
                go_wp2_with fail
                go_ret2
                rw [HPO.out, if_neg (by rw [hbad]; decide)]
                exact ⟨HBW.out, .inl ⟨rfl, rfl⟩⟩
          · have hge : ¬ (i : Int) < (b.f2.length : Int) := by omega
            have e : (prs b).take i = prs b := List.take_of_length_le (by simp [prs]; omega)
            rw [e] at HGD HL
            rw [e]
            clear e hlt
            go_wp2_with fail
            go_ret2
            rw [HPO.out, if_pos HGD.out]
            exact ⟨HB2.out.trans (HB.out.mono HB2.out.size), .inr ⟨_, _, p, bm, rfl, rfl, HL.out, Nat.le_trans HB2.out.size HS.out.1, Nat.le_trans HB2.out.size HS.out.2⟩⟩
    · go_wp2_with fail
      refine (new_err _ w2 (by omega)).mono ?_
      rintro e w3 ⟨rfl, rfl⟩
      go_wp2_with fail
      go_big_quiet (fail)
      go_wp2_with fail
      go_ret2
      rw [HPO.out, if_pos (.inl hbud)]
      exact ⟨pw_below_drewN (HB1.out.trans (HBN.out.mono HB1.out.size)) _, .inl ⟨rfl, rfl⟩⟩
  · have hre : res = (none, er) := HPE.out he
    go_wp2_with fail
    go_ret2
    rw [hre]
    exact ⟨HB1.out.trans (HBN.out.mono HB1.out.size), .inl ⟨rfl, rfl⟩⟩
end Go.Proofs.Ytnkpleggmiamdaa.Lp
