/- Kept of the text LpC: what is reached (wip/tools/prune.py). -/
import Derived.Test.YtnkpleggmiamdaaVLpB
import Derived.Test.YtnkpleggmiamdaaVMzR
namespace Go.Proofs.Ytnkpleggmiamdaa.Lp
open Go.RowKit Go.Maps Go.Proofs.YtnkpleggmiamdaaW.PrintWords Go.Proofs.YtnkpleggmiamdaaW.PrintLast Go.Proofs.YtnkpleggmiamdaaW.PrintMore
open Go.Proofs.Ytnkpleggmiamdaa.PSessionParses (S105 z105 k105 rd_T105 at_T105)
open Go.Proofs.Ytnkpleggmiamdaa.Mo Go.Proofs.Ytnkpleggmiamdaa.Mp Go.Proofs.Ytnkpleggmiamdaa.Ke
open Go.Proofs.Ytnkpleggmiamdaa.Le (LedIs rightB S85 k85 at_T85 rd_T85)
set_option linter.unusedVariables false
set_option linter.unusedSimpArgs false
def ls (p : Int × Int) : S85 := ⟨p.1, p.2⟩
def RParseQ (r : Option (Int × List (Int × Int)) × Int) (w : World) (e : Ending) (w' : World) : Prop :=
  Below w.heap.size w w' ∧ ((r.1 = none ∧ e = .returned (.tuple #[.pointer none, .int .i64 r.2])) ∨
    ∃ bud rows q A n, r.1 = some (bud, rows) ∧ e = .returned (.tuple #[.pointer (some ⟨q, 0, none⟩), .int .i64 r.2]) ∧ w'.heap[q]? = some (.cells #[.int .i64 bud, .slice A rows.length n] 95 (0, 0)))
theorem rd85 {xs : List S85} {i : Nat} (h : i < xs.length) : rd_T85 xs (i : Int) = xs[i] := by simp [rd_T85, h]
theorem lastK_at {l : Int} : ∀ (rows : List (Int × Int)) (i : Nat) (h : i < rows.length), lastK l (rows.take (i + 1)) = rows[i].1 := by
  intro rows i h
  rw [List.take_succ_eq_append_getElem h, lastK_snoc]
set_option maxHeartbeats 8000000 in
set_option maxRecDepth 100000 in
theorem rparse_calls (bs : List Int) (A : Option Addr) (c : Nat) (w : World) (hC : (Kd.int .u8).C w A bs.length bs) (hc : bs.length ≤ c) (hx : Byt bs) (hl : bs.length ≤ 100000) :
    Calls Try.prog 55 #[.slice A bs.length c] w (RParseQ (parseL bs) w) := by
  have HT := Aside0.mk (rtake_calls kLe shL gd_le dep_le ren_le (by decide) p_le bs A c w hC hc hx (by omega))
  have HTL := Aside0.mk (fun v h => top_le (v := v) hx h)
  obtain ⟨⟨v, er⟩, hv⟩ : ∃ q, takeTop shL bs = q := ⟨_, rfl⟩
  have HPE := Aside0.mk (parse_err (bs := bs))
  have HPO := Aside0.mk (fun v a b => parse_of (bs := bs) (v := v) (a := a) (b := b))
  rw [hv] at HT HTL HPE HPO
  obtain ⟨res, hres⟩ : ∃ res, parseL bs = res := ⟨_, rfl⟩
  rw [hres] at HPE HPO ⊢
  clear hC hx hres hv
  go_enter Try.func55, Try.ntmps55
  go_wp2_with fail
  refine Calls.mono HT.out ?_
  rintro E w1 ⟨hB, x, A3, c3, A4, c4, pl, er2, rfl, hc3, hC3, hc4, hC4, hrt⟩
  have HB1 := Aside0.mk hB
  have HC4 := Aside0.mk hC4
  have K4 := Aside0.mk (blk_new w1 (.cells #[.int .u64 x.f0, .slice A3 x.f1.length c3, .slice A4 x.f2.length c4] 105))
  have HBN : Aside0 (Below w1.heap.size w1 (w1.alloc (.cells #[.int .u64 x.f0, .slice A3 x.f1.length c3, .slice A4 x.f2.length c4] 105))) := ⟨(Below.refl _ _).alloc (Nat.le_refl _) _⟩
  clear hB hc3 hC3 hC4 HT
  cases hrt with
  | err h e =>
    have hre : res = (none, er) := HPE.out (by simp only at e; rw [e]; exact h)
    simp only at e
    subst e
    clear HTL HPE HPO
    go_wp2_with fail
    go_ret2
    rw [hre]
    exact ⟨HB1.out.trans (HBN.out.mono HB1.out.size), .inl ⟨rfl, rfl⟩⟩
  | more h l e =>
    have hre : res = (none, er) := HPE.out (by simp only at e; rw [e]; decide)
    simp only at e
    subst e
    subst h
    clear HTL HPE HPO
    go_wp2_with fail
    go_ret2
    rw [hre]
    exact ⟨HB1.out.trans (HBN.out.mono HB1.out.size), .inl ⟨rfl, rfl⟩⟩
  | all h l e =>
    subst h
    obtain ⟨rfl, rfl⟩ := Prod.mk.inj e
    subst l
    have hnl : ¬ ((bs.length : Int) < (bs.length : Int)) := by omega
    obtain ⟨⟨a, b, hr⟩, hp, hw, hts⟩ := HTL.out v rfl
    have HPO := Aside0.mk (HPO.out v a b rfl hr)
    have e2 : v.f2.length = 2 := by rw [hr.two]; rfl
    have HC4 : Aside0 (k105.C w1 A4 2 [a, b]) := ⟨by have h := HC4.out; rw [hr.two] at h; exact h⟩
    have hwa := wf_u (wf_in hw (y := a) (by rw [hr.two]; simp))
    have hwb : WfS b := wf_in hw (y := b) (by rw [hr.two]; simp)
    have HWB : Aside0 (∀ x ∈ b.f2, ∃ c o, x.f2 = [c, o] ∧ (0 ≤ c.f0 ∧ c.f0 < 18446744073709551616) ∧ (0 ≤ o.f0 ∧ o.f0 < 18446744073709551616)) := ⟨fun x hx => by
      obtain ⟨c, o, e⟩ := hr.row x hx
      have hwx := wf_in hwb hx
      exact ⟨c, o, e, wf_u (wf_in hwx (y := c) (by rw [e]; simp)), wf_u (wf_in hwx (y := o) (by rw [e]; simp))⟩⟩
    have HLE : Aside0 (b.f2.length ≤ bs.length) := ⟨by
      have h1 := congrArg List.length hp
      rw [put_le hr] at h1
      unfold formL at h1
      have h2 : ∀ l : List (Int × Int), l.length ≤ ((l.map rowB).flatten).length := by
        intro l
        induction l with
        | nil => simp
        | cons p l ih =>
          have : 1 ≤ (rowB p).length := by unfold rowB numB; simp
          simp only [List.map_cons, List.flatten_cons, List.length_cons, List.length_append]
          omega
      have h3 := h2 (prs b)
      have h4 : (prs b).length = b.f2.length := by simp [prs]
      simp only [List.length_append] at h1
      omega⟩
    rw [e2] at K4 HBN ⊢
    clear hts hp hw hwb hr e2 HTL HPE e
    obtain ⟨ad, A1, c1, A2, c2, B1, d1, B2, d2, rfl, y0, y1, y2, y3, y4, y5, hl2, g2⟩ := at_two HC4.out
    obtain ⟨bv, hbv⟩ : ∃ bv, w1.heap.size = bv := ⟨_, rfl⟩
    obtain ⟨w2, hw2⟩ : ∃ w2, w1.alloc (.cells #[.int .u64 v.f0, .slice A3 v.f1.length c3, .slice (some ad) 2 c4] 105) = w2 := ⟨_, rfl⟩
    rw [hw2, hbv] at K4
    rw [hw2] at HBN
    have k2 : w2.cell? ⟨bv, 2, none⟩ = some (.slice (some ad) 2 c4) := (blk_cell K4.out 2).trans rfl
    have z0 : w2.cell? ad = some (.int .u64 a.f0) := (HBN.out.cell (cell_lt y0)).trans y0
    have z5 : w2.cell? ⟨ad.block, ad.off + 5, none⟩ = some (.slice B2 b.f2.length d2) := (HBN.out.cell (cell_lt y5)).trans y5
    have HB2 : Aside0 (Below w.heap.size w w2) := ⟨HB1.out.trans (HBN.out.mono HB1.out.size)⟩
    have HG2 : Aside0 (k105.C w2 B2 b.f2.length b.f2) := ⟨Kd.C_below g2 HBN.out⟩
    have hlb := HLE.out
    have hlu : IntKind.u64.wrap (b.f2.length : Int) = (b.f2.length : Int) := u64_big (by omega) (by omega)
    clear g2 y0 y1 y2 y3 y4 y5 HC4 K4 HBN HLE
    go_wp2_with fail
    by_cases h1 : a.f0 < 1
    · have t1 : decide (a.f0 < 1) = true := decide_eq_true h1
      go_big_quiet (fail)
      go_wp2_with fail
      go_ret2
      rw [HPO.out, if_pos (.inl (fun h => by omega))]
      exact ⟨pw_below_drewN HB2.out _, .inl ⟨rfl, rfl⟩⟩
    · have t1 : decide (a.f0 < 1) = false := decide_eq_false h1
      by_cases h2 : 65535 < a.f0
      · have t2 : decide (65535 < a.f0) = true := decide_eq_true h2
        go_big_quiet (fail)
        go_wp2_with fail
        go_ret2
        rw [HPO.out, if_pos (.inl (fun h => by omega))]
        exact ⟨pw_below_drewN HB2.out _, .inl ⟨rfl, rfl⟩⟩
      · have t2 : decide (65535 < a.f0) = false := decide_eq_false h2
        by_cases h3 : a.f0 < (b.f2.length : Int)
        · have t3 : decide (a.f0 < (b.f2.length : Int)) = true := decide_eq_true h3
          go_big_quiet (fail)
          go_wp2_with fail
          go_ret2
          rw [HPO.out, if_pos (.inr h3)]
          exact ⟨pw_below_drewN HB2.out _, .inl ⟨rfl, rfl⟩⟩
        · have t3 : decide (a.f0 < (b.f2.length : Int)) = false := decide_eq_false h3
          have hpo : res = if goodF (-1) (prs b) then (some (a.f0, prs b), 0) else (none, 13) := by rw [HPO.out, if_neg (fun h => by rcases h with h | h <;> omega)]
          replace HPO := Aside0.mk hpo
          have hwr : wrap64 a.f0 = a.f0 := by unfold wrap64; omega
          clear hpo
          go_big_quiet (fail)
          obtain ⟨q, hq⟩ : ∃ q, w2.heap.size = q := ⟨_, rfl⟩
          have HU := Aside0.mk (And.intro k2 z5)
          have HQS : Aside0 (w2.heap.size ≤ q) := ⟨by rw [← hq]; exact Nat.le_refl _⟩
          go_wp2_with fail
          clear k2 z0 z5 t1 t2 t3 hwr hlu
          obtain ⟨B, hBdef⟩ : ∃ B, q + 1 = B := ⟨_, rfl⟩
          have HQB : Aside0 (q < B) := ⟨by omega⟩
          have HSB : Aside0 (w2.heap.size ≤ B) := ⟨by omega⟩
          go_loopg [8, 9] b.f2.length (fun kq v8 v9 wr => ∃ (i : Nat) (Ar : Option Addr) (n : Nat), v8 = .int .i64 i ∧ i + kq = b.f2.length ∧ Aside0 (goodF (-1) ((prs b).take i) = true) ∧ Aside0 (wr.heap[q]? = some (.cells #[.int .i64 a.f0, .slice Ar i n] 95 (0, 0))) ∧ Aside0 (Kd.R k85 85 wr B (fun k => B ≤ k) (.slice Ar i n) (((prs b).take i).map ls)) ∧ Aside0 (Below w2.heap.size w2 wr) ∧ Aside0 (B ≤ wr.heap.size))
          case atStart => exact ⟨0, none, 0, rfl, by omega, ⟨rfl⟩, ⟨by rw [← hq]; exact blk_new (w2.drewN _) _⟩, ⟨Kd.R_nil _ _ _ _ _⟩, ⟨(pw_below_drewN (Below.refl _ _) _).alloc (Nat.le_refl _) _⟩, ⟨by rw [← hBdef, ← hq, World.size_alloc]; exact Nat.le_refl _⟩⟩
          case round =>
            clear hBdef hq
            obtain ⟨i, Ar, n, rfl, hi, HGD, KQ, HR, HB, HBW⟩ := hrel
            have k2 := (HB.out.cell (cell_lt HU.out.1)).trans HU.out.1
            have z5 := (HB.out.cell (cell_lt HU.out.2)).trans HU.out.2
            have HLI : Aside0 ((((prs b).take i).map ls).length = i) := ⟨by simp [prs]; omega⟩
            by_cases hlt : i < b.f2.length
            · have hlt' : (i : Int) < (b.f2.length : Int) := by omega
              obtain ⟨ad2, X1, x1, X2, x2, rfl, y0, y1, y2, _, _, l2, g2⟩ := at_T105 HG2.out i (by omega) hlt'
              rw [rd105 hlt] at y0 y1 y2 l2 g2
              simp only [Int.toNat_natCast] at y0 y1 y2
              obtain ⟨x, hx⟩ : ∃ x, b.f2[i] = x := ⟨_, rfl⟩
              obtain ⟨cc, oo, hxf, hcc, hoo⟩ := HWB.out x (by rw [← hx]; exact List.getElem_mem hlt)
              rw [hx, hxf] at y2 l2 g2
              have g2 : k105.C w2 X2 2 [cc, oo] := g2
              have y2 : w2.cell? ⟨(ad2.add (i * 3)).block, (ad2.add (i * 3)).off + 2, none⟩ = some (.slice X2 2 x2) := y2
              obtain ⟨adx, C1, n1, C2, n2, D1, m1, D2, m2, rfl, q0, q1, q2, q3, q4, q5, _, _⟩ := at_two g2
              have HXB : Aside0 (adx.block < B) := ⟨by have := cell_lt q0; have := HSB.out; omega⟩
              have HBAD := Aside0.mk (goodF_bad hlt hx hxf)
              have HSTEP := Aside0.mk (goodF_step hlt hx hxf HGD.out)
              have HTK := Aside0.mk (prs_take hlt hx hxf)
              have HBWW : Aside0 (Below w.heap.size w wr) := ⟨HB2.out.trans (HB.out.mono HB2.out.size)⟩
              have y2' := (HB.out.cell (cell_lt y2)).trans y2
              have r0 := (HB.out.cell (cell_lt q0)).trans q0
              have r3 := (HB.out.cell (cell_lt q3)).trans q3
              have kq1 : wr.cell? ⟨q, 1, none⟩ = some (.slice Ar i n) := (blk_cell KQ.out 1).trans rfl
              clear y0 y1 y2 l2 g2 q0 q1 q2 q3 q4 q5 hx hxf
              by_cases h1 : 1048576 ≤ cc.f0
              · have t1 : decide (1048576 ≤ cc.f0) = true := decide_eq_true h1
                go_wp2_with fail
                go_big_quiet (fail)
                go_wp2_with fail
                go_ret2
                rw [HPO.out, if_neg (by rw [HBAD.out (by rw [show rightB cc.f0 oo.f0 = false from decide_eq_false (by omega)]; rfl)]; decide)]
                exact ⟨pw_below_drewN HBWW.out _, .inl ⟨rfl, rfl⟩⟩
              · have t1 : decide (1048576 ≤ cc.f0) = false := decide_eq_false h1
                by_cases h2 : oo.f0 < 1
                · have t2 : decide (oo.f0 < 1) = true := decide_eq_true h2
                  go_wp2_with fail
                  go_big_quiet (fail)
                  go_wp2_with fail
                  go_ret2
                  rw [HPO.out, if_neg (by rw [HBAD.out (by rw [show rightB cc.f0 oo.f0 = false from decide_eq_false (by omega)]; rfl)]; decide)]
                  exact ⟨pw_below_drewN HBWW.out _, .inl ⟨rfl, rfl⟩⟩
                · have t2 : decide (oo.f0 < 1) = false := decide_eq_false h2
                  by_cases h3 : 1099511627776 ≤ oo.f0
                  · have t3 : decide (1099511627776 ≤ oo.f0) = true := decide_eq_true h3
                    go_wp2_with fail
                    go_big_quiet (fail)
                    go_wp2_with fail
                    go_ret2
                    rw [HPO.out, if_neg (by rw [HBAD.out (by rw [show rightB cc.f0 oo.f0 = false from decide_eq_false (by omega)]; rfl)]; decide)]
                    exact ⟨pw_below_drewN HBWW.out _, .inl ⟨rfl, rfl⟩⟩
                  · have t3 : decide (1099511627776 ≤ oo.f0) = false := decide_eq_false h3
                    have hrb : rightB cc.f0 oo.f0 = true := decide_eq_true (by omega)
                    have hwc : wrap64 cc.f0 = cc.f0 := by unfold wrap64; omega
                    have hwo : wrap64 oo.f0 = oo.f0 := by unfold wrap64; omega
                    by_cases hi0 : i = 0
                    · have HLT : Aside0 (decide (lastK (-1) ((prs b).take i) < cc.f0) = true) := ⟨by rw [hi0]; exact decide_eq_true (show (-1 : Int) < cc.f0 by omega)⟩
                      have t4 : decide (0 < i) = false := decide_eq_false (by omega)
                      clear hi0
                      go_wp2_with fail
                      go_big_quiet (fail)
                      go_upto_region 15 with fail
                      rename Nat => nd
                      obtain ⟨wd, hwd⟩ : ∃ wd, wr.drewN nd = wd := ⟨_, rfl⟩
                      have HBr : Aside0 (Below wr.heap.size wr wd) := ⟨by rw [← hwd]; exact pw_below_drewN (Below.refl _ _) nd⟩
                      rw [hwd]
                      clear hwd
                      have KQD := Aside0.mk (blk_below KQ.out HBr.out)
                      have HRD := Aside0.mk (Kd.R_below HR.out HBr.out)
                      have CX := Aside0.mk (And.intro ((HBr.out.cell (cell_lt r0)).trans r0) ((HBr.out.cell (cell_lt r3)).trans r3))
                      have HBD : Aside0 (B ≤ wd.heap.size) := ⟨Nat.le_trans HBW.out HBr.out.size⟩
                      have HB2d := Aside0.mk (HB.out.trans (HBr.out.mono HB.out.size))
                      have HTM : Aside0 (((prs b).take i).map ls ++ [ls (cc.f0, oo.f0)] = ((prs b).take (i + 1)).map ls) := ⟨by rw [HTK.out, List.map_append]; rfl⟩
                      have HL2 : Aside0 ((((prs b).take (i + 1)).map ls).length = i + 1) := ⟨by simp [prs]; omega⟩
                      have HGN := Aside0.mk (HSTEP.out (by rw [hrb, HLT.out]; rfl))
                      have HD : Aside0 (Below wd.heap.size wd wd.drew) := ⟨(Below.refl _ _).drew⟩
                      have HC : Aside0 (∀ w', Below wd.heap.size wd w' → w'.cell? ⟨q, 1, none⟩ = some (.slice Ar i n) ∧ w'.cell? adx = some (.int .u64 cc.f0) ∧ w'.cell? ⟨adx.block, adx.off + 3, none⟩ = some (.int .u64 oo.f0)) := ⟨fun w' hW => ⟨(blk_cell (blk_below KQD.out hW) 1).trans rfl, pw_cell_below hW CX.out.1, pw_cell_below hW CX.out.2⟩⟩
                      clear HR KQ HB HBW HBr r0 r3 kq1 y2' k2 z5 HBWW HGD HBAD HSTEP HTK
                      refine start_ (n := 21) (S := fun w' => w'.cell? ⟨q, 1, none⟩ = some (.slice Ar i n) ∧ w'.cell? adx = some (.int .u64 cc.f0) ∧ w'.cell? ⟨adx.block, adx.off + 3, none⟩ = some (.int .u64 oo.f0)) (ds := [20]) #[false, false, false, false, false, false, false, false, false, false, false, false, false, false, false, false, false, false, false, false, false] (by kernel_rfl) rfl rfl (HC.out _ HD.out) (fun hHeld => ?_)
                      refine pure_ (i := 0) (N := some 119) (v := ?_) (a' := ?_) #[true, false, false, false, false, false, false, false, false, false, false, false, false, false, false, false, false, false, false, false, false] rfl rfl (by kernel_rfl) (fun _ _ _ h => h) (Or.inl ⟨by rfl, ?_⟩) ?_ ?_
                      rotate_left
                      · intro w'
                        go_simp
                        with_reducible rfl
                      rotate_left
                      · simp only [Act.put, List.setIfInBounds_toArray, List.set_cons_zero, List.set_cons_succ, i64_w, i32_w]
                        rfl
                      refine pure_ (i := 1) (N := some 120) (v := ?_) (a' := ?_) #[true, true, false, false, false, false, false, false, false, false, false, false, false, false, false, false, false, false, false, false, false] rfl rfl (by kernel_rfl) (fun _ _ _ h => h) (Or.inl ⟨by rfl, ?_⟩) ?_ ?_
                      rotate_left
                      · intro w'
                        go_simp
                        with_reducible rfl
                      rotate_left
                      · simp only [Act.put, List.setIfInBounds_toArray, List.set_cons_zero, List.set_cons_succ, i64_w, i32_w]
                        rfl
                      refine pure_ (i := 2) (N := some 121) (v := ?_) (a' := ?_) #[true, true, true, false, false, false, false, false, false, false, false, false, false, false, false, false, false, false, false, false, false] rfl rfl (by kernel_rfl) (fun _ _ _ h => h) (Or.inl ⟨by rfl, ?_⟩) ?_ ?_
                      rotate_left
                      · intro w'
                        go_simp
                        with_reducible rfl
                      rotate_left
                      · simp only [Act.put, List.setIfInBounds_toArray, List.set_cons_zero, List.set_cons_succ, i64_w, i32_w]
                        rfl
                      refine pure_ (i := 3) (N := some 122) (v := ?_) (a' := ?_) #[true, true, true, true, false, false, false, false, false, false, false, false, false, false, false, false, false, false, false, false, false] rfl rfl (by kernel_rfl) (fun _ _ _ h => h) (Or.inl ⟨by rfl, ?_⟩) ?_ ?_
                      rotate_left
                      · intro w'
                        go_simp
                        with_reducible rfl
                      rotate_left
                      · simp only [Act.put, List.setIfInBounds_toArray, List.set_cons_zero, List.set_cons_succ, i64_w, i32_w]
                        rfl
                      refine pure_ (i := 5) (N := some 124) (v := ?_) (a' := ?_) #[true, true, true, true, false, true, false, false, false, false, false, false, false, false, false, false, false, false, false, false, false] rfl rfl (by kernel_rfl) (fun _ _ _ h => h) (Or.inl ⟨by rfl, ?_⟩) ?_ ?_
                      rotate_left
                      · intro w'
                        go_simp
                        with_reducible rfl
                      rotate_left
                      · simp only [Act.put, List.setIfInBounds_toArray, List.set_cons_zero, List.set_cons_succ, i64_w, i32_w]
                        rfl
                      refine pure_ (i := 6) (N := some 125) (v := ?_) (a' := ?_) #[true, true, true, true, false, true, true, false, false, false, false, false, false, false, false, false, false, false, false, false, false] rfl rfl (by kernel_rfl) (fun _ _ _ h => h) (Or.inl ⟨by rfl, ?_⟩) ?_ ?_
                      rotate_left
                      · intro w'
                        go_simp
                        with_reducible rfl
                      rotate_left
                      · simp only [Act.put, List.setIfInBounds_toArray, List.set_cons_zero, List.set_cons_succ, i64_w, i32_w]
                        rfl
                      refine pure_ (i := 7) (N := some 126) (v := ?_) (a' := ?_) #[true, true, true, true, false, true, true, true, false, false, false, false, false, false, false, false, false, false, false, false, false] rfl rfl (by kernel_rfl) (fun _ _ _ h => h) (Or.inl ⟨by rfl, ?_⟩) ?_ ?_
                      rotate_left
                      · intro w'
                        go_simp
                        with_reducible rfl
                      rotate_left
                      · simp only [Act.put, List.setIfInBounds_toArray, List.set_cons_zero, List.set_cons_succ, i64_w, i32_w]
                        rfl
                      refine pure_ (i := 10) (N := some 129) (v := ?_) (a' := ?_) #[true, true, true, true, false, true, true, true, false, false, true, false, false, false, false, false, false, false, false, false, false] rfl rfl (by kernel_rfl) (fun _ _ _ h => h) (Or.inl ⟨by rfl, ?_⟩) ?_ ?_
                      rotate_left
                      · intro w'
                        go_simp
                        with_reducible rfl
                      rotate_left
                      · simp only [Act.put, List.setIfInBounds_toArray, List.set_cons_zero, List.set_cons_succ, i64_w, i32_w]
                        rfl
                      refine pure_ (i := 11) (N := some 130) (v := ?_) (a' := ?_) #[true, true, true, true, false, true, true, true, false, false, true, true, false, false, false, false, false, false, false, false, false] rfl rfl (by kernel_rfl) (fun _ _ _ h => h) (Or.inl ⟨by rfl, ?_⟩) ?_ ?_
                      rotate_left
                      · intro w'
                        go_simp
                        with_reducible rfl
                      rotate_left
                      · simp only [Act.put, List.setIfInBounds_toArray, List.set_cons_zero, List.set_cons_succ, i64_w, i32_w]
                        rfl
                      refine pure_ (i := 12) (N := some 131) (v := ?_) (a' := ?_) #[true, true, true, true, false, true, true, true, false, false, true, true, true, false, false, false, false, false, false, false, false] rfl rfl (by kernel_rfl) (fun _ _ _ h => h) (Or.inl ⟨by rfl, ?_⟩) ?_ ?_
                      rotate_left
                      · intro w'
                        go_simp
                        with_reducible rfl
                      rotate_left
                      · simp only [Act.put, List.setIfInBounds_toArray, List.set_cons_zero, List.set_cons_succ, i64_w, i32_w]
                        rfl
                      refine take_ (i := 4) (N := some 123) (v := ?_) (a' := ?_) #[true, true, true, true, true, true, true, true, false, false, true, true, true, false, false, false, false, false, false, false, false] rfl rfl (by kernel_rfl) (fun _ _ _ h => h) (Or.inl ⟨by rfl, ?_⟩) hHeld ?_ ?_
                      rotate_left
                      · rintro w' ⟨s0, s1, s2⟩
                        go_simp
                        with_reducible rfl
                      rotate_left
                      · simp only [Act.put, List.setIfInBounds_toArray, List.set_cons_zero, List.set_cons_succ, i64_w, i32_w]
                        rfl
                      refine take_ (i := 8) (N := some 127) (v := ?_) (a' := ?_) #[true, true, true, true, true, true, true, true, true, false, true, true, true, false, false, false, false, false, false, false, false] rfl rfl (by kernel_rfl) (fun _ _ _ h => h) (Or.inl ⟨by rfl, ?_⟩) hHeld ?_ ?_
                      rotate_left
                      · rintro w' ⟨s0, s1, s2⟩
                        go_simp
                        with_reducible rfl
                      rotate_left
                      · simp only [Act.put, List.setIfInBounds_toArray, List.set_cons_zero, List.set_cons_succ, i64_w, i32_w]
                        rfl
                      refine pure_ (i := 9) (N := some 128) (v := ?_) (a' := ?_) #[true, true, true, true, true, true, true, true, true, true, true, true, true, false, false, false, false, false, false, false, false] rfl rfl (by kernel_rfl) (fun _ _ _ h => h) (Or.inl ⟨by rfl, ?_⟩) ?_ ?_
                      rotate_left
                      · intro w'
                        go_simp
                        with_reducible rfl
                      rotate_left
                      · simp only [Act.put, List.setIfInBounds_toArray, List.set_cons_zero, List.set_cons_succ, i64_w, i32_w]
                        rfl
                      refine take_ (i := 13) (N := some 132) (v := ?_) (a' := ?_) #[true, true, true, true, true, true, true, true, true, true, true, true, true, true, false, false, false, false, false, false, false] rfl rfl (by kernel_rfl) (fun _ _ _ h => h) (Or.inl ⟨by rfl, ?_⟩) hHeld ?_ ?_
                      rotate_left
                      · rintro w' ⟨s0, s1, s2⟩
                        go_simp
                        with_reducible rfl
                      rotate_left
                      · simp only [Act.put, List.setIfInBounds_toArray, List.set_cons_zero, List.set_cons_succ, i64_w, i32_w]
                        rfl
                      refine pure_ (i := 14) (N := some 133) (v := ?_) (a' := ?_) #[true, true, true, true, true, true, true, true, true, true, true, true, true, true, true, false, false, false, false, false, false] rfl rfl (by kernel_rfl) (fun _ _ _ h => h) (Or.inl ⟨by rfl, ?_⟩) ?_ ?_
                      rotate_left
                      · intro w'
                        go_simp
                        with_reducible rfl
                      rotate_left
                      · simp only [Act.put, List.setIfInBounds_toArray, List.set_cons_zero, List.set_cons_succ, i64_w, i32_w]
                        rfl
                      refine pure_ (i := 15) (N := some 134) (v := ?_) (a' := ?_) #[true, true, true, true, true, true, true, true, true, true, true, true, true, true, true, true, false, false, false, false, false] rfl rfl (by kernel_rfl) (fun _ _ _ h => h) (Or.inl ⟨by rfl, ?_⟩) ?_ ?_
                      rotate_left
                      · intro w'
                        go_simp
                        with_reducible rfl
                      rotate_left
                      · simp only [Act.put, List.setIfInBounds_toArray, List.set_cons_zero, List.set_cons_succ, i64_w, i32_w]
                        rfl
                      refine one_ (i := 16) (N := some 135) #[true, true, true, true, true, true, true, true, true, true, true, true, true, true, true, true, true, false, false, false, false] rfl rfl (by kernel_rfl) (by decide) (fun K hK => ?_)
                      refine value_ (w1 := ?_) (v := ?_) (by rfl) rfl ?_ ?_
                      rotate_left 2
                      · go_simp
                        constructor
                        · rfl
                        · rfl
                      have hb : Below wd.drew.heap.size wd.drew (wd.drew.alloc (Obj.cells #[.int .i64 cc.f0, .int .i64 oo.f0] 85)) := (Below.refl _ wd.drew).alloc (Nat.le_refl _) _
                      have HD2 := Aside0.mk (HD.out.trans (hb.mono HD.out.size))
                      clear hb
                      refine hK.out _ _ (HC.out _ HD2.out) (fun hHeld => ?_)
                      clear hK K
                      refine norm_ (a' := ?_) ?_ ?_
                      rotate_left
                      · show Act.put _ (some 135) _ = _
                        simp only [Act.put, List.setIfInBounds_toArray, List.set_cons_zero, List.set_cons_succ, i64_w, i32_w]
                        rfl
                      refine one_ (i := 17) (N := some 136) #[true, true, true, true, true, true, true, true, true, true, true, true, true, true, true, true, true, true, false, false, false] rfl rfl (by kernel_rfl) (by decide) (fun K hK => ?_)
                      refine Kd.R_append_step k85 (w0 := wd.drew) (W := wd.drew) B (by rfl) (.tmp 123) (.tmp 135) 86 85 (.agg #[.int .i64 0, .int .i64 0]) 16 rfl Try.underlying86 Le.info85 rfl (by decide) (by decide) (.slice Ar i n) (((prs b).take i).map ls) (ls (cc.f0, oo.f0)) [.int .i64 cc.f0, .int .i64 oo.f0] (fun k => B ≤ k) (fun _ => False) (by rfl) (by rfl) (Le.k85_mkM _ _ _ (ls (cc.f0, oo.f0))) (fun _ h => h.elim) (fun k hk => Nat.le_trans HBD.out hk) (Kd.R_drew HRD.out) (Below.refl _ _) HBD.out (by rw [HLI.out]; omega) ?_
                      intro v9 w9 hr9 hb9 hg9 hat9
                      obtain ⟨A9, c9, rfl⟩ := Kd.R_slice hr9
                      rw [HTM.out] at hr9 ⊢
                      rw [HL2.out] at hr9 ⊢
                      have HR9 := Aside0.mk hr9
                      have HG9 : Aside0 (wd.grownBy w9 (Value.slice Ar i n).ownBlock) := ⟨World.grownBy.trans (grown_of_below (Below.refl _ wd).drew _) hg9⟩
                      have KQ9 := Aside0.mk (blk_grown KQD.out HG9.out (fun e => by have h := Kd.R_base HRD.out _ e.symm; have := HQB.out; omega))
                      have hnx : some adx.block ≠ (Value.slice Ar i n).ownBlock := fun e => by have h := Kd.R_base HRD.out _ e.symm; have := HXB.out; omega
                      have ADX9 : Aside0 (w9.cell? adx = some (.int .u64 cc.f0) ∧ w9.cell? ⟨adx.block, adx.off + 3, none⟩ = some (.int .u64 oo.f0)) := ⟨⟨(World.cell?_of_block (w := wd) (w' := w9) (HG9.out.block _ (cell_lt CX.out.1) hnx)).trans CX.out.1, (World.cell?_of_block (w := wd) (w' := w9) (a := ⟨adx.block, adx.off + 3, none⟩) (HG9.out.block _ (cell_lt CX.out.2) hnx)).trans CX.out.2⟩⟩
                      clear hnx
                      clear hr9 hb9 hg9 hat9
                      refine hK.out _ _ (⟨(blk_cell KQ9.out 1).trans rfl, ADX9.out⟩) (fun hHeld => ?_)
                      clear hK K
                      refine norm_ (a' := ?_) ?_ ?_
                      rotate_left
                      · show Act.put _ (some 136) _ = _
                        simp only [Act.put, List.setIfInBounds_toArray, List.set_cons_zero, List.set_cons_succ, i64_w, i32_w]
                        rfl
                      refine pure_ (i := 18) (N := some 137) (v := ?_) (a' := ?_) #[true, true, true, true, true, true, true, true, true, true, true, true, true, true, true, true, true, true, true, false, false] rfl rfl (by kernel_rfl) (fun _ _ _ h => h) (Or.inl ⟨by rfl, ?_⟩) ?_ ?_
                      rotate_left
                      · intro w'
                        go_simp
                        with_reducible rfl
                      rotate_left
                      · simp only [Act.put, List.setIfInBounds_toArray, List.set_cons_zero, List.set_cons_succ, i64_w, i32_w]
                        rfl
                      refine pure_ (i := 19) (N := some 138) (v := ?_) (a' := ?_) #[true, true, true, true, true, true, true, true, true, true, true, true, true, true, true, true, true, true, true, true, false] rfl rfl (by kernel_rfl) (fun _ _ _ h => h) (Or.inl ⟨by rfl, ?_⟩) ?_ ?_
                      rotate_left
                      · intro w'
                        go_simp
                        with_reducible rfl
                      rotate_left
                      · simp only [Act.put, List.setIfInBounds_toArray, List.set_cons_zero, List.set_cons_succ, i64_w, i32_w]
                        rfl
                      refine last_ (i := 20) (N := none) #[true, true, true, true, true, true, true, true, true, true, true, true, true, true, true, true, true, true, true, true, true] rfl rfl (by kernel_rfl) (by decide) (fun K hK => ?_)
                      have hq9 := (blk_cell KQ9.out 1).trans (show _ = some (Value.slice Ar i n) from rfl)
                      have hf9 := blk_frozen KQ9.out 1
                      refine skip_ (w1 := ?_) (by rfl) rfl ?_ ?_
                      rotate_left
                      · go_simp
                        rfl
                      clear hq9 hf9
                      refine hK.out _ _ ?_
                      clear hK K
                      refine done_ (by kernel_rfl) ?_
                      have KQn : Aside0 ((w9.setCell ⟨q, 1, none⟩ (.slice A9 (i + 1) c9)).heap[q]? = some (.cells #[.int .i64 a.f0, .slice A9 (i + 1) c9] 95 (0, 0))) := ⟨blk_put (cs := #[.int .i64 a.f0, .slice Ar i n]) KQ9.out 1 _ rfl⟩
                      have HRn : Aside0 (Kd.R k85 85 (w9.setCell ⟨q, 1, none⟩ (.slice A9 (i + 1) c9)) B (fun k => B ≤ k) (.slice A9 (i + 1) c9) (((prs b).take (i + 1)).map ls)) := ⟨Kd.R_step HR9.out (fun k hk _ => Below.heap_setCell w9 ⟨q, 1, none⟩ _ k (by have h1 : B ≤ k := hk; have := HQB.out; show k ≠ q; omega))⟩
                      have HBn : Aside0 (Below w2.heap.size w2 (w9.setCell ⟨q, 1, none⟩ (.slice A9 (i + 1) c9))) := ⟨(pw_below_grown HB2d.out _ HB2d.out.size HG9.out (fun k hk => by have := Kd.R_base HRD.out k hk; have := HSB.out; omega)).setCell (p := ⟨q, 1, none⟩) HQS.out _⟩
                      have HWn : Aside0 (B ≤ (w9.setCell ⟨q, 1, none⟩ (.slice A9 (i + 1) c9)).heap.size) := ⟨by have := HG9.out.size; have := HBD.out; simp [World.setCell]; omega⟩
                      clear hHeld HC HD HD2 KQ9 HR9 HG9 ADX9 HRD KQD CX HB2d HBD
                      generalize w9.setCell ⟨q, 1, none⟩ (.slice A9 (i + 1) c9) = w10 at *
                      go_wp2_with fail
                      go_roundg (b.f2.length - (i + 1))
                      case measure => omega
                      case rel => exact ⟨i + 1, A9, c9, by go_num, by omega, HGN, KQn, HRn, HBn, HWn⟩
                    · obtain ⟨j, rfl⟩ : ∃ j, i = j + 1 := ⟨i - 1, by omega⟩
                      have hjl : j < (prs b).length := by simp [prs]; omega
                      have hlk : lastK (-1) ((prs b).take (j + 1)) = (prs b)[j].1 := lastK_at _ _ hjl
                      have hrow := (Kd.R_reads' HR.out).2.2
                      rw [HLI.out] at hrow
                      obtain ⟨adr, rfl, u0, u1⟩ := at_T85 hrow (j : Int) (by omega) (by omega)
                      rw [rd85 (by rw [HLI.out]; omega)] at u0
                      simp only [Int.toNat_natCast, List.getElem_map, List.getElem_take] at u0
                      replace u0 : wr.cell? (adr.add (j * 2)) = some (.int .i64 (lastK (-1) ((prs b).take (j + 1)))) := by rw [hlk]; exact u0
                      clear u1 hrow hlk
                      obtain ⟨lk, hlk⟩ : ∃ lk, lastK (-1) ((prs b).take (j + 1)) = lk := ⟨_, rfl⟩
                      rw [hlk] at u0 HBAD HSTEP
                      by_cases h5 : cc.f0 ≤ lk
                      · have t5 : decide (cc.f0 ≤ lk) = true := decide_eq_true h5
                        clear hlk
                        go_wp2_with fail
                        go_big_quiet (fail)
                        go_wp2_with fail
                        go_ret2
                        rw [HPO.out, if_neg (by rw [HBAD.out (by rw [show decide (lk < cc.f0) = false from decide_eq_false (by omega), Bool.and_false])]; decide)]
                        exact ⟨pw_below_drewN HBWW.out _, .inl ⟨rfl, rfl⟩⟩
                      · have t5 : decide (cc.f0 ≤ lk) = false := decide_eq_false h5
                        have HLT : Aside0 (decide (lk < cc.f0) = true) := ⟨decide_eq_true (by omega)⟩
                        clear hlk
                        go_wp2_with fail
                        go_big_quiet (fail)
                        go_upto_region 15 with fail
                        rename Nat => nd
                        obtain ⟨wd, hwd⟩ : ∃ wd, wr.drewN nd = wd := ⟨_, rfl⟩
                        have HBr : Aside0 (Below wr.heap.size wr wd) := ⟨by rw [← hwd]; exact pw_below_drewN (Below.refl _ _) nd⟩
                        rw [hwd]
                        clear hwd
                        have KQD := Aside0.mk (blk_below KQ.out HBr.out)
                        have HRD := Aside0.mk (Kd.R_below HR.out HBr.out)
                        have CX := Aside0.mk (And.intro ((HBr.out.cell (cell_lt r0)).trans r0) ((HBr.out.cell (cell_lt r3)).trans r3))
                        have HBD : Aside0 (B ≤ wd.heap.size) := ⟨Nat.le_trans HBW.out HBr.out.size⟩
                        have HB2d := Aside0.mk (HB.out.trans (HBr.out.mono HB.out.size))
                        have HTM : Aside0 (((prs b).take (j + 1)).map ls ++ [ls (cc.f0, oo.f0)] = ((prs b).take (j + 1 + 1)).map ls) := ⟨by rw [HTK.out, List.map_append]; rfl⟩
                        have HL2 : Aside0 ((((prs b).take (j + 1 + 1)).map ls).length = (j + 1) + 1) := ⟨by simp [prs]; omega⟩
                        have HGN := Aside0.mk (HSTEP.out (by rw [hrb, HLT.out]; rfl))
                        have HD : Aside0 (Below wd.heap.size wd wd.drew) := ⟨(Below.refl _ _).drew⟩
                        have HC : Aside0 (∀ w', Below wd.heap.size wd w' → w'.cell? ⟨q, 1, none⟩ = some (.slice (some adr) (j + 1) n) ∧ w'.cell? adx = some (.int .u64 cc.f0) ∧ w'.cell? ⟨adx.block, adx.off + 3, none⟩ = some (.int .u64 oo.f0)) := ⟨fun w' hW => ⟨(blk_cell (blk_below KQD.out hW) 1).trans rfl, pw_cell_below hW CX.out.1, pw_cell_below hW CX.out.2⟩⟩
                        clear HR KQ HB HBW HBr r0 r3 kq1 y2' k2 z5 HBWW HGD HBAD HSTEP HTK
                        refine start_ (n := 21) (S := fun w' => w'.cell? ⟨q, 1, none⟩ = some (.slice (some adr) (j + 1) n) ∧ w'.cell? adx = some (.int .u64 cc.f0) ∧ w'.cell? ⟨adx.block, adx.off + 3, none⟩ = some (.int .u64 oo.f0)) (ds := [20]) #[false, false, false, false, false, false, false, false, false, false, false, false, false, false, false, false, false, false, false, false, false] (by kernel_rfl) rfl rfl (HC.out _ HD.out) (fun hHeld => ?_)
                        refine pure_ (i := 0) (N := some 119) (v := ?_) (a' := ?_) #[true, false, false, false, false, false, false, false, false, false, false, false, false, false, false, false, false, false, false, false, false] rfl rfl (by kernel_rfl) (fun _ _ _ h => h) (Or.inl ⟨by rfl, ?_⟩) ?_ ?_
                        rotate_left
                        · intro w'
                          go_simp
                          with_reducible rfl
                        rotate_left
                        · simp only [Act.put, List.setIfInBounds_toArray, List.set_cons_zero, List.set_cons_succ, i64_w, i32_w]
                          rfl
                        refine pure_ (i := 1) (N := some 120) (v := ?_) (a' := ?_) #[true, true, false, false, false, false, false, false, false, false, false, false, false, false, false, false, false, false, false, false, false] rfl rfl (by kernel_rfl) (fun _ _ _ h => h) (Or.inl ⟨by rfl, ?_⟩) ?_ ?_
                        rotate_left
                        · intro w'
                          go_simp
                          with_reducible rfl
                        rotate_left
                        · simp only [Act.put, List.setIfInBounds_toArray, List.set_cons_zero, List.set_cons_succ, i64_w, i32_w]
                          rfl
                        refine pure_ (i := 2) (N := some 121) (v := ?_) (a' := ?_) #[true, true, true, false, false, false, false, false, false, false, false, false, false, false, false, false, false, false, false, false, false] rfl rfl (by kernel_rfl) (fun _ _ _ h => h) (Or.inl ⟨by rfl, ?_⟩) ?_ ?_
                        rotate_left
                        · intro w'
                          go_simp
                          with_reducible rfl
                        rotate_left
                        · simp only [Act.put, List.setIfInBounds_toArray, List.set_cons_zero, List.set_cons_succ, i64_w, i32_w]
                          rfl
                        refine pure_ (i := 3) (N := some 122) (v := ?_) (a' := ?_) #[true, true, true, true, false, false, false, false, false, false, false, false, false, false, false, false, false, false, false, false, false] rfl rfl (by kernel_rfl) (fun _ _ _ h => h) (Or.inl ⟨by rfl, ?_⟩) ?_ ?_
                        rotate_left
                        · intro w'
                          go_simp
                          with_reducible rfl
                        rotate_left
                        · simp only [Act.put, List.setIfInBounds_toArray, List.set_cons_zero, List.set_cons_succ, i64_w, i32_w]
                          rfl
                        refine pure_ (i := 5) (N := some 124) (v := ?_) (a' := ?_) #[true, true, true, true, false, true, false, false, false, false, false, false, false, false, false, false, false, false, false, false, false] rfl rfl (by kernel_rfl) (fun _ _ _ h => h) (Or.inl ⟨by rfl, ?_⟩) ?_ ?_
                        rotate_left
                        · intro w'
                          go_simp
                          with_reducible rfl
                        rotate_left
                        · simp only [Act.put, List.setIfInBounds_toArray, List.set_cons_zero, List.set_cons_succ, i64_w, i32_w]
                          rfl
                        refine pure_ (i := 6) (N := some 125) (v := ?_) (a' := ?_) #[true, true, true, true, false, true, true, false, false, false, false, false, false, false, false, false, false, false, false, false, false] rfl rfl (by kernel_rfl) (fun _ _ _ h => h) (Or.inl ⟨by rfl, ?_⟩) ?_ ?_
                        rotate_left
                        · intro w'
                          go_simp
                          with_reducible rfl
                        rotate_left
                        · simp only [Act.put, List.setIfInBounds_toArray, List.set_cons_zero, List.set_cons_succ, i64_w, i32_w]
                          rfl
                        refine pure_ (i := 7) (N := some 126) (v := ?_) (a' := ?_) #[true, true, true, true, false, true, true, true, false, false, false, false, false, false, false, false, false, false, false, false, false] rfl rfl (by kernel_rfl) (fun _ _ _ h => h) (Or.inl ⟨by rfl, ?_⟩) ?_ ?_
                        rotate_left
                        · intro w'
                          go_simp
                          with_reducible rfl
                        rotate_left
                        · simp only [Act.put, List.setIfInBounds_toArray, List.set_cons_zero, List.set_cons_succ, i64_w, i32_w]
                          rfl
                        refine pure_ (i := 10) (N := some 129) (v := ?_) (a' := ?_) #[true, true, true, true, false, true, true, true, false, false, true, false, false, false, false, false, false, false, false, false, false] rfl rfl (by kernel_rfl) (fun _ _ _ h => h) (Or.inl ⟨by rfl, ?_⟩) ?_ ?_
                        rotate_left
                        · intro w'
                          go_simp
                          with_reducible rfl
                        rotate_left
                        · simp only [Act.put, List.setIfInBounds_toArray, List.set_cons_zero, List.set_cons_succ, i64_w, i32_w]
                          rfl
                        refine pure_ (i := 11) (N := some 130) (v := ?_) (a' := ?_) #[true, true, true, true, false, true, true, true, false, false, true, true, false, false, false, false, false, false, false, false, false] rfl rfl (by kernel_rfl) (fun _ _ _ h => h) (Or.inl ⟨by rfl, ?_⟩) ?_ ?_
                        rotate_left
                        · intro w'
                          go_simp
                          with_reducible rfl
                        rotate_left
                        · simp only [Act.put, List.setIfInBounds_toArray, List.set_cons_zero, List.set_cons_succ, i64_w, i32_w]
                          rfl
                        refine pure_ (i := 12) (N := some 131) (v := ?_) (a' := ?_) #[true, true, true, true, false, true, true, true, false, false, true, true, true, false, false, false, false, false, false, false, false] rfl rfl (by kernel_rfl) (fun _ _ _ h => h) (Or.inl ⟨by rfl, ?_⟩) ?_ ?_
                        rotate_left
                        · intro w'
                          go_simp
                          with_reducible rfl
                        rotate_left
                        · simp only [Act.put, List.setIfInBounds_toArray, List.set_cons_zero, List.set_cons_succ, i64_w, i32_w]
                          rfl
                        refine take_ (i := 4) (N := some 123) (v := ?_) (a' := ?_) #[true, true, true, true, true, true, true, true, false, false, true, true, true, false, false, false, false, false, false, false, false] rfl rfl (by kernel_rfl) (fun _ _ _ h => h) (Or.inl ⟨by rfl, ?_⟩) hHeld ?_ ?_
                        rotate_left
                        · rintro w' ⟨s0, s1, s2⟩
                          go_simp
                          with_reducible rfl
                        rotate_left
                        · simp only [Act.put, List.setIfInBounds_toArray, List.set_cons_zero, List.set_cons_succ, i64_w, i32_w]
                          rfl
                        refine take_ (i := 8) (N := some 127) (v := ?_) (a' := ?_) #[true, true, true, true, true, true, true, true, true, false, true, true, true, false, false, false, false, false, false, false, false] rfl rfl (by kernel_rfl) (fun _ _ _ h => h) (Or.inl ⟨by rfl, ?_⟩) hHeld ?_ ?_
                        rotate_left
                        · rintro w' ⟨s0, s1, s2⟩
                          go_simp
                          with_reducible rfl
                        rotate_left
                        · simp only [Act.put, List.setIfInBounds_toArray, List.set_cons_zero, List.set_cons_succ, i64_w, i32_w]
                          rfl
                        refine pure_ (i := 9) (N := some 128) (v := ?_) (a' := ?_) #[true, true, true, true, true, true, true, true, true, true, true, true, true, false, false, false, false, false, false, false, false] rfl rfl (by kernel_rfl) (fun _ _ _ h => h) (Or.inl ⟨by rfl, ?_⟩) ?_ ?_
                        rotate_left
                        · intro w'
                          go_simp
                          with_reducible rfl
                        rotate_left
                        · simp only [Act.put, List.setIfInBounds_toArray, List.set_cons_zero, List.set_cons_succ, i64_w, i32_w]
                          rfl
                        refine take_ (i := 13) (N := some 132) (v := ?_) (a' := ?_) #[true, true, true, true, true, true, true, true, true, true, true, true, true, true, false, false, false, false, false, false, false] rfl rfl (by kernel_rfl) (fun _ _ _ h => h) (Or.inl ⟨by rfl, ?_⟩) hHeld ?_ ?_
                        rotate_left
                        · rintro w' ⟨s0, s1, s2⟩
                          go_simp
                          with_reducible rfl
                        rotate_left
                        · simp only [Act.put, List.setIfInBounds_toArray, List.set_cons_zero, List.set_cons_succ, i64_w, i32_w]
                          rfl
                        refine pure_ (i := 14) (N := some 133) (v := ?_) (a' := ?_) #[true, true, true, true, true, true, true, true, true, true, true, true, true, true, true, false, false, false, false, false, false] rfl rfl (by kernel_rfl) (fun _ _ _ h => h) (Or.inl ⟨by rfl, ?_⟩) ?_ ?_
                        rotate_left
                        · intro w'
                          go_simp
                          with_reducible rfl
                        rotate_left
                        · simp only [Act.put, List.setIfInBounds_toArray, List.set_cons_zero, List.set_cons_succ, i64_w, i32_w]
                          rfl
                        refine pure_ (i := 15) (N := some 134) (v := ?_) (a' := ?_) #[true, true, true, true, true, true, true, true, true, true, true, true, true, true, true, true, false, false, false, false, false] rfl rfl (by kernel_rfl) (fun _ _ _ h => h) (Or.inl ⟨by rfl, ?_⟩) ?_ ?_
                        rotate_left
                        · intro w'
                          go_simp
                          with_reducible rfl
                        rotate_left
                        · simp only [Act.put, List.setIfInBounds_toArray, List.set_cons_zero, List.set_cons_succ, i64_w, i32_w]
                          rfl
                        refine one_ (i := 16) (N := some 135) #[true, true, true, true, true, true, true, true, true, true, true, true, true, true, true, true, true, false, false, false, false] rfl rfl (by kernel_rfl) (by decide) (fun K hK => ?_)
                        refine value_ (w1 := ?_) (v := ?_) (by rfl) rfl ?_ ?_
                        rotate_left 2
                        · go_simp
                          constructor
                          · rfl
                          · rfl
                        have hb : Below wd.drew.heap.size wd.drew (wd.drew.alloc (Obj.cells #[.int .i64 cc.f0, .int .i64 oo.f0] 85)) := (Below.refl _ wd.drew).alloc (Nat.le_refl _) _
                        have HD2 := Aside0.mk (HD.out.trans (hb.mono HD.out.size))
                        clear hb
                        refine hK.out _ _ (HC.out _ HD2.out) (fun hHeld => ?_)
                        clear hK K
                        refine norm_ (a' := ?_) ?_ ?_
                        rotate_left
                        · show Act.put _ (some 135) _ = _
                          simp only [Act.put, List.setIfInBounds_toArray, List.set_cons_zero, List.set_cons_succ, i64_w, i32_w]
                          rfl
                        refine one_ (i := 17) (N := some 136) #[true, true, true, true, true, true, true, true, true, true, true, true, true, true, true, true, true, true, false, false, false] rfl rfl (by kernel_rfl) (by decide) (fun K hK => ?_)
                        refine Kd.R_append_step k85 (w0 := wd.drew) (W := wd.drew) B (by rfl) (.tmp 123) (.tmp 135) 86 85 (.agg #[.int .i64 0, .int .i64 0]) 16 rfl Try.underlying86 Le.info85 rfl (by decide) (by decide) (.slice (some adr) (j + 1) n) (((prs b).take (j + 1)).map ls) (ls (cc.f0, oo.f0)) [.int .i64 cc.f0, .int .i64 oo.f0] (fun k => B ≤ k) (fun _ => False) (by rfl) (by rfl) (Le.k85_mkM _ _ _ (ls (cc.f0, oo.f0))) (fun _ h => h.elim) (fun k hk => Nat.le_trans HBD.out hk) (Kd.R_drew HRD.out) (Below.refl _ _) HBD.out (by rw [HLI.out]; omega) ?_
                        intro v9 w9 hr9 hb9 hg9 hat9
                        obtain ⟨A9, c9, rfl⟩ := Kd.R_slice hr9
                        rw [HTM.out] at hr9 ⊢
                        rw [HL2.out] at hr9 ⊢
                        have HR9 := Aside0.mk hr9
                        have HG9 : Aside0 (wd.grownBy w9 (Value.slice (some adr) (j + 1) n).ownBlock) := ⟨World.grownBy.trans (grown_of_below (Below.refl _ wd).drew _) hg9⟩
                        have KQ9 := Aside0.mk (blk_grown KQD.out HG9.out (fun e => by have h := Kd.R_base HRD.out _ e.symm; have := HQB.out; omega))
                        have hnx : some adx.block ≠ (Value.slice (some adr) (j + 1) n).ownBlock := fun e => by have h := Kd.R_base HRD.out _ e.symm; have := HXB.out; omega
                        have ADX9 : Aside0 (w9.cell? adx = some (.int .u64 cc.f0) ∧ w9.cell? ⟨adx.block, adx.off + 3, none⟩ = some (.int .u64 oo.f0)) := ⟨⟨(World.cell?_of_block (w := wd) (w' := w9) (HG9.out.block _ (cell_lt CX.out.1) hnx)).trans CX.out.1, (World.cell?_of_block (w := wd) (w' := w9) (a := ⟨adx.block, adx.off + 3, none⟩) (HG9.out.block _ (cell_lt CX.out.2) hnx)).trans CX.out.2⟩⟩
                        clear hnx
                        clear hr9 hb9 hg9 hat9
                        refine hK.out _ _ (⟨(blk_cell KQ9.out 1).trans rfl, ADX9.out⟩) (fun hHeld => ?_)
                        clear hK K
                        refine norm_ (a' := ?_) ?_ ?_
                        rotate_left
                        · show Act.put _ (some 136) _ = _
                          simp only [Act.put, List.setIfInBounds_toArray, List.set_cons_zero, List.set_cons_succ, i64_w, i32_w]
                          rfl
                        refine pure_ (i := 18) (N := some 137) (v := ?_) (a' := ?_) #[true, true, true, true, true, true, true, true, true, true, true, true, true, true, true, true, true, true, true, false, false] rfl rfl (by kernel_rfl) (fun _ _ _ h => h) (Or.inl ⟨by rfl, ?_⟩) ?_ ?_
                        rotate_left
                        · intro w'
                          go_simp
                          with_reducible rfl
                        rotate_left
                        · simp only [Act.put, List.setIfInBounds_toArray, List.set_cons_zero, List.set_cons_succ, i64_w, i32_w]
                          rfl
                        refine pure_ (i := 19) (N := some 138) (v := ?_) (a' := ?_) #[true, true, true, true, true, true, true, true, true, true, true, true, true, true, true, true, true, true, true, true, false] rfl rfl (by kernel_rfl) (fun _ _ _ h => h) (Or.inl ⟨by rfl, ?_⟩) ?_ ?_
                        rotate_left
                        · intro w'
                          go_simp
                          with_reducible rfl
                        rotate_left
                        · simp only [Act.put, List.setIfInBounds_toArray, List.set_cons_zero, List.set_cons_succ, i64_w, i32_w]
                          rfl
                        refine last_ (i := 20) (N := none) #[true, true, true, true, true, true, true, true, true, true, true, true, true, true, true, true, true, true, true, true, true] rfl rfl (by kernel_rfl) (by decide) (fun K hK => ?_)
                        have hq9 := (blk_cell KQ9.out 1).trans (show _ = some (Value.slice (some adr) (j + 1) n) from rfl)
                        have hf9 := blk_frozen KQ9.out 1
                        refine skip_ (w1 := ?_) (by rfl) rfl ?_ ?_
                        rotate_left
                        · go_simp
                          rfl
                        clear hq9 hf9
                        refine hK.out _ _ ?_
                        clear hK K
                        refine done_ (by kernel_rfl) ?_
                        have KQn : Aside0 ((w9.setCell ⟨q, 1, none⟩ (.slice A9 (j + 1 + 1) c9)).heap[q]? = some (.cells #[.int .i64 a.f0, .slice A9 (j + 1 + 1) c9] 95 (0, 0))) := ⟨blk_put (cs := #[.int .i64 a.f0, .slice (some adr) (j + 1) n]) KQ9.out 1 _ rfl⟩
                        have HRn : Aside0 (Kd.R k85 85 (w9.setCell ⟨q, 1, none⟩ (.slice A9 (j + 1 + 1) c9)) B (fun k => B ≤ k) (.slice A9 (j + 1 + 1) c9) (((prs b).take (j + 1 + 1)).map ls)) := ⟨Kd.R_step HR9.out (fun k hk _ => Below.heap_setCell w9 ⟨q, 1, none⟩ _ k (by have h1 : B ≤ k := hk; have := HQB.out; show k ≠ q; omega))⟩
                        have HBn : Aside0 (Below w2.heap.size w2 (w9.setCell ⟨q, 1, none⟩ (.slice A9 (j + 1 + 1) c9))) := ⟨(pw_below_grown HB2d.out _ HB2d.out.size HG9.out (fun k hk => by have := Kd.R_base HRD.out k hk; have := HSB.out; omega)).setCell (p := ⟨q, 1, none⟩) HQS.out _⟩
                        have HWn : Aside0 (B ≤ (w9.setCell ⟨q, 1, none⟩ (.slice A9 (j + 1 + 1) c9)).heap.size) := ⟨by have := HG9.out.size; have := HBD.out; simp [World.setCell]; omega⟩
                        clear hHeld HC HD HD2 KQ9 HR9 HG9 ADX9 HRD KQD CX HB2d HBD
                        generalize w9.setCell ⟨q, 1, none⟩ (.slice A9 (j + 1 + 1) c9) = w10 at *
                        go_wp2_with fail
                        go_roundg (b.f2.length - (j + 1 + 1))
                        case measure => omega
                        case rel => exact ⟨(j + 1) + 1, A9, c9, by go_num, by omega, HGN, KQn, HRn, HBn, HWn⟩
            · have hge : ¬ (i : Int) < (b.f2.length : Int) := by omega
              obtain rfl : i = b.f2.length := by omega
              have e : (prs b).take b.f2.length = prs b := List.take_of_length_le (by simp [prs])
              rw [e] at HGD
              go_wp2_with fail
              go_ret2
              rw [HPO.out, if_pos HGD.out]
              exact ⟨HB2.out.trans (HB.out.mono HB2.out.size), .inr ⟨_, _, q, Ar, n, rfl, rfl, by have := KQ.out; simpa [prs] using this⟩⟩
end Go.Proofs.Ytnkpleggmiamdaa.Lp
