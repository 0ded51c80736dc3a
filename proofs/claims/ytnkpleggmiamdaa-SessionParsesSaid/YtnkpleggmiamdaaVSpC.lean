/- Kept of the text SpC: what is reached (wip/tools/prune.py). -/
import Derived.Test.YtnkpleggmiamdaaVSpB
import Derived.Test.YtnkpleggmiamdaaVMzR
namespace Go.Proofs.Ytnkpleggmiamdaa.Sp
open Go.RowKit Go.Maps Go.Proofs.YtnkpleggmiamdaaW.PrintWords Go.Proofs.YtnkpleggmiamdaaW.PrintLast Go.Proofs.YtnkpleggmiamdaaW.PrintMore
open Go.Proofs.Ytnkpleggmiamdaa.PSessionParses (S105 z105 k105 rd_T105 at_T105)
open Go.Proofs.Ytnkpleggmiamdaa.Mo Go.Proofs.Ytnkpleggmiamdaa.Mp
open Go.Proofs.Ytnkpleggmiamdaa.Se (rightF)
set_option linter.unusedVariables false
set_option linter.unusedSimpArgs false
theorem at_threeC {w : World} {A : Option Addr} {x y z : S105} (h : k105.C w A 3 [x, y, z]) :
    ∃ ad A7 n7, A = some ad ∧ w.cell? ad = some (.int .u64 x.f0) ∧ w.cell? ⟨ad.block, ad.off + 3, none⟩ = some (.int .u64 y.f0) ∧ w.cell? ⟨ad.block, ad.off + 7, none⟩ = some (.slice A7 z.f1.length n7) := by
  obtain ⟨ad, _, _, _, _, e, h0, _⟩ := at_T105 h 0 (by omega) (by omega)
  obtain ⟨ad', _, _, _, _, e', g0, _⟩ := at_T105 h 1 (by omega) (by omega)
  obtain ⟨ad'', A7, n7, _, _, e'', _, k1, _⟩ := at_T105 h 2 (by omega) (by omega)
  subst e
  cases e'
  cases e''
  have a0 : ad.add ((0 : Int).toNat * 3) = ad := by simp [Addr.add]
  have a1 : ad.add ((1 : Int).toNat * 3) = ⟨ad.block, ad.off + 3, none⟩ := add_k ad 3 (by decide)
  have a2 : ad.add ((2 : Int).toNat * 3) = ⟨ad.block, ad.off + 6, none⟩ := add_k ad 6 (by decide)
  rw [a0] at h0
  rw [a1] at g0
  rw [a2] at k1
  exact ⟨ad, A7, n7, rfl, h0, g0, k1⟩
def kAny : Kd (Option Addr × Nat × Nat) := Kd.scalar (fun p => Value.slice p.1 p.2.1 p.2.2) (fun _ => rfl)
abbrev L54 := Int × (Int × (Option Addr × Nat × Nat))
def k54 : Kd L54 := Kd.pair (Kd.int .i64) (Kd.pair (Kd.int .i64) kAny)
theorem k54_mkM (w : World) (base : Nat) (ok : Nat → Prop) (x : L54) : k54.M w base ok x [.int .i64 x.1, .int .i64 x.2.1, .slice x.2.2.1 x.2.2.2.1 x.2.2.2.2] := ⟨[.int .i64 x.1], [.int .i64 x.2.1, .slice x.2.2.1 x.2.2.2.1 x.2.2.2.2], rfl, rfl, ⟨[.int .i64 x.2.1], [.slice x.2.2.1 x.2.2.2.1 x.2.2.2.2], rfl, rfl, rfl⟩⟩
theorem at_54 {w : World} {A : Option Addr} {n : Nat} {xs : List L54} (h : k54.C w A n xs) (i : Nat) (h1 : i < n) (h2 : i < xs.length) : ∃ ad, A = some ad ∧ w.cell? (ad.add (i * 3)) = some (.int .i64 xs[i].1) := by
  obtain ⟨ad, c, e, _, hK, hc⟩ := Kd.C_get h (0, 0, none, 0, 0) (i : Int) (by omega) (by omega)
  have hg : xs.getD ((i : Int)).toNat (0, 0, none, 0, 0) = xs[i] := by simp [h2]
  rw [hg] at hK
  obtain ⟨_, _, rfl, rfl, _⟩ := hK
  have h3 := hc 0 _ rfl
  rw [show k54.sz = 3 from rfl] at h3
  exact ⟨ad, e, by simpa using h3⟩
theorem info54 : (Try.prog.info? 54).map (fun i => (i.zero, i.size, i.bytes)) = some (some (.agg #[.int .i64 0, .int .i64 0, .slice none 0 0]), 3, 40) := by kernel_rfl
def RParseQ (r : Option (List Tr) × Int) (w : World) (e : Ending) (w' : World) : Prop :=
  Below w.heap.size w w' ∧ ((r.1 = none ∧ e = .returned (.tuple #[.pointer none, .int .i64 r.2])) ∨
    ∃ rows q A n, r.1 = some rows ∧ e = .returned (.tuple #[.pointer (some ⟨q, 0, none⟩), .int .i64 r.2]) ∧ w'.heap[q]? = some (.cells #[.slice A rows.length n] 48 (0, 0)))
theorem lastK_at {l : Int} : ∀ (rows : List Tr) (i : Nat) (h : i < rows.length), lastK l (rows.take (i + 1)) = rows[i].1 := by
  intro rows i h
  rw [List.take_succ_eq_append_getElem h, lastK_snoc]
set_option maxHeartbeats 8000000 in
set_option maxRecDepth 100000 in
theorem rparse_calls (bs : List Int) (A : Option Addr) (c : Nat) (w : World) (hC : (Kd.int .u8).C w A bs.length bs) (hc : bs.length ≤ c) (hx : Byt bs) (hl : bs.length ≤ 100000) :
    Calls Try.prog 24 #[.slice A bs.length c] w (RParseQ (parseS bs) w) := by
  have HT := Aside0.mk (rtake_calls kSe shS gd_se dep_se ren_se (by decide) p_se bs A c w hC hc hx (by omega))
  have HTL := Aside0.mk (fun v h => top_se (v := v) hx h)
  obtain ⟨⟨v, er⟩, hv⟩ : ∃ q, takeTop shS bs = q := ⟨_, rfl⟩
  have HPE := Aside0.mk (parse_err (bs := bs))
  have HPO := Aside0.mk (fun v => parse_of (bs := bs) (v := v))
  rw [hv] at HT HTL HPE HPO
  obtain ⟨res, hres⟩ : ∃ res, parseS bs = res := ⟨_, rfl⟩
  rw [hres] at HPE HPO ⊢
  clear hC hx hres hv
  go_enter Try.func24, Try.ntmps24
  go_wp2_with fail
  refine Calls.mono HT.out ?_
  rintro E w1 ⟨hB, x, A3, c3, A4, c4, pl, er2, rfl, hc3, hC3, hc4, hC4, hrt⟩
  have HB1 := Aside0.mk hB
  have HC4 := Aside0.mk hC4
  have K4 := Aside0.mk (blk_new w1 (.cells #[.int .u64 x.f0, .slice A3 x.f1.length c3, .slice A4 x.f2.length c4] 105))
  have HBN : Aside0 (Below w1.heap.size w1 (w1.alloc (.cells #[.int .u64 x.f0, .slice A3 x.f1.length c3, .slice A4 x.f2.length c4] 105))) := ⟨(Below.refl _ _).alloc (Nat.le_refl _) _⟩
  clear hB hc3 hC3 hC4 HT
  cases hrt with
  | err h e =>
    have hre : res = (none, er) := HPE.out (by simp only at e; rw [e]; exact h)
    simp only at e
    subst e
    clear HTL HPE HPO
    go_wp2_with fail
    go_ret2
    rw [hre]
    exact ⟨HB1.out.trans (HBN.out.mono HB1.out.size), .inl ⟨rfl, rfl⟩⟩
  | more h l e =>
    have hre : res = (none, er) := HPE.out (by simp only at e; rw [e]; decide)
    simp only at e
    subst e
    subst h
    clear HTL HPE HPO
    go_wp2_with fail
    go_ret2
    rw [hre]
    exact ⟨HB1.out.trans (HBN.out.mono HB1.out.size), .inl ⟨rfl, rfl⟩⟩
  | all h l e =>
    subst h
    obtain ⟨rfl, rfl⟩ := Prod.mk.inj e
    subst l
    have hnl : ¬ ((bs.length : Int) < (bs.length : Int)) := by omega
    obtain ⟨hr, hp, hw⟩ := HTL.out v rfl
    have HPO := Aside0.mk (HPO.out v rfl)
    have HWB : Aside0 (∀ x ∈ v.f2, ∃ c o b, x.f2 = [c, o, b] ∧ (0 ≤ c.f0 ∧ c.f0 < 18446744073709551616) ∧ (0 ≤ o.f0 ∧ o.f0 < 18446744073709551616)) := ⟨fun x hx => by
      obtain ⟨c, o, b, e⟩ := hr x hx
      have hwx := wf_in hw hx
      exact ⟨c, o, b, e, wf_u (wf_in hwx (y := c) (by rw [e]; simp)), wf_u (wf_in hwx (y := o) (by rw [e]; simp))⟩⟩
    have HLE : Aside0 (v.f2.length ≤ bs.length) := ⟨by
      have h1 := congrArg List.length hp
      rw [put_se hr] at h1
      unfold formS at h1
      have h2 : ∀ l : List Tr, l.length ≤ ((l.map rowB).flatten).length := by
        intro l
        induction l with
        | nil => simp
        | cons p l ih =>
          have : 1 ≤ (rowB p).length := by unfold rowB numB; simp
          simp only [List.map_cons, List.flatten_cons, List.length_cons, List.length_append]
          omega
      have h3 := h2 (trs v)
      have h4 : (trs v).length = v.f2.length := by simp [trs]
      simp only [List.length_append] at h1
      omega⟩
    clear hp hw hr HTL HPE e
    obtain ⟨bv, hbv⟩ : ∃ bv, w1.heap.size = bv := ⟨_, rfl⟩
    obtain ⟨w2, hw2⟩ : ∃ w2, w1.alloc (.cells #[.int .u64 v.f0, .slice A3 v.f1.length c3, .slice A4 v.f2.length c4] 105) = w2 := ⟨_, rfl⟩
    rw [hw2, hbv] at K4
    rw [hw2] at HBN
    have k2 : w2.cell? ⟨bv, 2, none⟩ = some (.slice A4 v.f2.length c4) := (blk_cell K4.out 2).trans rfl
    have HB2 : Aside0 (Below w.heap.size w w2) := ⟨HB1.out.trans (HBN.out.mono HB1.out.size)⟩
    have HG2 : Aside0 (k105.C w2 A4 v.f2.length v.f2) := ⟨Kd.C_below HC4.out HBN.out⟩
    have hlb := HLE.out
    obtain ⟨q, hq⟩ : ∃ q, w2.heap.size = q := ⟨_, rfl⟩
    have HU := Aside0.mk k2
    have HQS : Aside0 (w2.heap.size ≤ q) := ⟨by rw [← hq]; exact Nat.le_refl _⟩
    clear HC4 HBN HLE
    go_wp2_with fail
    clear k2 K4
    obtain ⟨B, hBdef⟩ : ∃ B, q + 1 = B := ⟨_, rfl⟩
    have HQB : Aside0 (q < B) := ⟨by omega⟩
    have HSB : Aside0 (w2.heap.size ≤ B) := ⟨by omega⟩
    go_loopg [8, 9] v.f2.length (fun kq v8 v9 wr => ∃ (i : Nat) (Ar : Option Addr) (n : Nat) (T : List L54), v8 = .int .i64 i ∧ i + kq = v.f2.length ∧ Aside0 (goodF (-1) ((trs v).take i) = true) ∧ Aside0 (T.map (·.1) = ((trs v).take i).map (·.1)) ∧ Aside0 (wr.heap[q]? = some (.cells #[.slice Ar i n] 48 (0, 0))) ∧ Aside0 (Kd.R k54 54 wr B (fun k => B ≤ k) (.slice Ar i n) T) ∧ Aside0 (Below w2.heap.size w2 wr) ∧ Aside0 (B ≤ wr.heap.size))
    case atStart => exact ⟨0, none, 0, [], rfl, by omega, ⟨rfl⟩, ⟨rfl⟩, ⟨by rw [← hq]; exact blk_new w2 _⟩, ⟨Kd.R_nil _ _ _ _ _⟩, ⟨(Below.refl _ _).alloc (Nat.le_refl _) _⟩, ⟨by rw [← hBdef, ← hq, World.size_alloc]; exact Nat.le_refl _⟩⟩
    case round =>
      clear hBdef hq
      obtain ⟨i, Ar, n, T, rfl, hi, HGD, HTT, KQ, HR, HB, HBW⟩ := hrel
      have k2 := (HB.out.cell (cell_lt HU.out)).trans HU.out
      have HLI : Aside0 (T.length = i) := ⟨by have := congrArg List.length HTT.out; simp [trs] at this; omega⟩
      by_cases hlt : i < v.f2.length
      · have hlt' : (i : Int) < (v.f2.length : Int) := by omega
        obtain ⟨ad2, X1, x1, X2, x2, rfl, y0, y1, y2, _, _, l2, g2⟩ := at_T105 HG2.out i (by omega) hlt'
        rw [rd105 hlt] at y0 y1 y2 l2 g2
        simp only [Int.toNat_natCast] at y0 y1 y2
        obtain ⟨x, hx⟩ : ∃ x, v.f2[i] = x := ⟨_, rfl⟩
        obtain ⟨cc, oo, bb, hxf, hcc, hoo⟩ := HWB.out x (by rw [← hx]; exact List.getElem_mem hlt)
        rw [hx, hxf] at y2 l2 g2
        have g2 : k105.C w2 X2 3 [cc, oo, bb] := g2
        have y2 : w2.cell? ⟨(ad2.add (i * 3)).block, (ad2.add (i * 3)).off + 2, none⟩ = some (.slice X2 3 x2) := y2
        obtain ⟨adx, A7, n7, rfl, q0, q3, q7⟩ := at_threeC g2
        have HXB : Aside0 (adx.block < B) := ⟨by have := cell_lt q0; have := HSB.out; omega⟩
        have HBAD := Aside0.mk (goodF_bad hlt hx hxf)
        have HSTEP := Aside0.mk (goodF_step hlt hx hxf HGD.out)
        have HTK := Aside0.mk (trs_take hlt hx hxf)
        have HBWW : Aside0 (Below w.heap.size w wr) := ⟨HB2.out.trans (HB.out.mono HB2.out.size)⟩
        have y2' := (HB.out.cell (cell_lt y2)).trans y2
        have r0 := (HB.out.cell (cell_lt q0)).trans q0
        have r3 := (HB.out.cell (cell_lt q3)).trans q3
        have r7 := (HB.out.cell (cell_lt q7)).trans q7
        have kq1 : wr.cell? ⟨q, 0, none⟩ = some (.slice Ar i n) := (blk_cell KQ.out 0).trans rfl
        clear y0 y1 y2 l2 g2 q0 q3 q7 hx hxf
        by_cases h1 : 1099511627776 ≤ cc.f0
        · have t1 : decide (1099511627776 ≤ cc.f0) = true := decide_eq_true h1
          go_wp2_with fail
          go_big_quiet (fail)
          go_wp2_with fail
          go_ret2
          rw [HPO.out, if_neg (by rw [HBAD.out (by rw [show rightF cc.f0 oo.f0 = false from decide_eq_false (by omega)]; rfl)]; decide)]
          exact ⟨pw_below_drewN HBWW.out _, .inl ⟨rfl, rfl⟩⟩
        · have t1 : decide (1099511627776 ≤ cc.f0) = false := decide_eq_false h1
          by_cases h2 : 1099511627776 ≤ oo.f0
          · have t2 : decide (1099511627776 ≤ oo.f0) = true := decide_eq_true h2
            go_wp2_with fail
            go_big_quiet (fail)
            go_wp2_with fail
            go_ret2
            rw [HPO.out, if_neg (by rw [HBAD.out (by rw [show rightF cc.f0 oo.f0 = false from decide_eq_false (by omega)]; rfl)]; decide)]
            exact ⟨pw_below_drewN HBWW.out _, .inl ⟨rfl, rfl⟩⟩
          · have t2 : decide (1099511627776 ≤ oo.f0) = false := decide_eq_false h2
            by_cases h3 : oo.f0 = 0
            · have t3 : (oo.f0 == 0) = true := by simpa using h3
              go_wp2_with fail
              go_big_quiet (fail)
              go_wp2_with fail
              go_ret2
              rw [HPO.out, if_neg (by rw [HBAD.out (by rw [show rightF cc.f0 oo.f0 = false from decide_eq_false (by omega)]; rfl)]; decide)]
              exact ⟨pw_below_drewN HBWW.out _, .inl ⟨rfl, rfl⟩⟩
            · have t3 : (oo.f0 == 0) = false := by simpa using h3
              have hrb : rightF cc.f0 oo.f0 = true := decide_eq_true (by omega)
              have hwc : wrap64 cc.f0 = cc.f0 := by unfold wrap64; omega
              have hwo : wrap64 oo.f0 = oo.f0 := by unfold wrap64; omega
              by_cases hi0 : i = 0
              · have HLT : Aside0 (decide (lastK (-1) ((trs v).take i) < cc.f0) = true) := ⟨by rw [hi0]; exact decide_eq_true (show (-1 : Int) < cc.f0 by omega)⟩
                have t4 : decide (0 < i) = false := decide_eq_false (by omega)
                clear hi0
                go_wp2_with fail
                go_big_quiet (fail)
                go_upto_region 13 with fail
                rename Nat => nd
                obtain ⟨wd, hwd⟩ : ∃ wd, wr.drewN nd = wd := ⟨_, rfl⟩
                have HBr : Aside0 (Below wr.heap.size wr wd) := ⟨by rw [← hwd]; exact pw_below_drewN (Below.refl _ _) nd⟩
                rw [hwd]
                clear hwd
                have KQD := Aside0.mk (blk_below KQ.out HBr.out)
                have HRD := Aside0.mk (Kd.R_below HR.out HBr.out)
                have CX := Aside0.mk (And.intro ((HBr.out.cell (cell_lt r0)).trans r0) (And.intro ((HBr.out.cell (cell_lt r3)).trans r3) ((HBr.out.cell (cell_lt r7)).trans r7)))
                have HBD : Aside0 (B ≤ wd.heap.size) := ⟨Nat.le_trans HBW.out HBr.out.size⟩
                have HB2d := Aside0.mk (HB.out.trans (HBr.out.mono HB.out.size))
                have HTM : Aside0 ((T ++ [(cc.f0, oo.f0, A7, bb.f1.length, n7)]).map (·.1) = ((trs v).take (i + 1)).map (·.1)) := ⟨by rw [HTK.out, List.map_append, List.map_append, HTT.out]; rfl⟩
                have HL2 : Aside0 ((T ++ [((cc.f0, oo.f0, A7, bb.f1.length, n7) : L54)]).length = i + 1) := ⟨by rw [List.length_append, HLI.out]; rfl⟩
                have HGN := Aside0.mk (HSTEP.out (by rw [hrb, HLT.out]; rfl))
                have HD : Aside0 (Below wd.heap.size wd wd.drew) := ⟨(Below.refl _ _).drew⟩
                have HC : Aside0 (∀ w', Below wd.heap.size wd w' → w'.cell? ⟨q, 0, none⟩ = some (.slice Ar i n) ∧ w'.cell? adx = some (.int .u64 cc.f0) ∧ w'.cell? ⟨adx.block, adx.off + 3, none⟩ = some (.int .u64 oo.f0) ∧ w'.cell? ⟨adx.block, adx.off + 7, none⟩ = some (.slice A7 bb.f1.length n7)) := ⟨fun w' hW => ⟨(blk_cell (blk_below KQD.out hW) 0).trans rfl, pw_cell_below hW CX.out.1, pw_cell_below hW CX.out.2.1, pw_cell_below hW CX.out.2.2⟩⟩
                clear HR KQ HB HBW HBr r0 r3 kq1 y2' r7 k2 HBWW HGD HBAD HSTEP HTK
                refine start_ (n := 25) (S := fun w' => w'.cell? ⟨q, 0, none⟩ = some (.slice Ar i n) ∧ w'.cell? adx = some (.int .u64 cc.f0) ∧ w'.cell? ⟨adx.block, adx.off + 3, none⟩ = some (.int .u64 oo.f0) ∧ w'.cell? ⟨adx.block, adx.off + 7, none⟩ = some (.slice A7 bb.f1.length n7)) (ds := [24]) #[false, false, false, false, false, false, false, false, false, false, false, false, false, false, false, false, false, false, false, false, false, false, false, false, false] (by kernel_rfl) rfl rfl (HC.out _ HD.out) (fun hHeld => ?_)
                refine pure_ (i := 0) (N := some 78) (v := ?_) (a' := ?_) #[true, false, false, false, false, false, false, false, false, false, false, false, false, false, false, false, false, false, false, false, false, false, false, false, false] rfl rfl (by kernel_rfl) (fun _ _ _ h => h) (Or.inl ⟨by rfl, ?_⟩) ?_ ?_
                rotate_left
                · intro w'
                  go_simp
                  with_reducible rfl
                rotate_left
                · simp only [Act.put, List.setIfInBounds_toArray, List.set_cons_zero, List.set_cons_succ, i64_w, i32_w]
                  rfl
                refine pure_ (i := 1) (N := some 79) (v := ?_) (a' := ?_) #[true, true, false, false, false, false, false, false, false, false, false, false, false, false, false, false, false, false, false, false, false, false, false, false, false] rfl rfl (by kernel_rfl) (fun _ _ _ h => h) (Or.inl ⟨by rfl, ?_⟩) ?_ ?_
                rotate_left
                · intro w'
                  go_simp
                  with_reducible rfl
                rotate_left
                · simp only [Act.put, List.setIfInBounds_toArray, List.set_cons_zero, List.set_cons_succ, i64_w, i32_w]
                  rfl
                refine pure_ (i := 2) (N := some 80) (v := ?_) (a' := ?_) #[true, true, true, false, false, false, false, false, false, false, false, false, false, false, false, false, false, false, false, false, false, false, false, false, false] rfl rfl (by kernel_rfl) (fun _ _ _ h => h) (Or.inl ⟨by rfl, ?_⟩) ?_ ?_
                rotate_left
                · intro w'
                  go_simp
                  with_reducible rfl
                rotate_left
                · simp only [Act.put, List.setIfInBounds_toArray, List.set_cons_zero, List.set_cons_succ, i64_w, i32_w]
                  rfl
                refine pure_ (i := 3) (N := some 81) (v := ?_) (a' := ?_) #[true, true, true, true, false, false, false, false, false, false, false, false, false, false, false, false, false, false, false, false, false, false, false, false, false] rfl rfl (by kernel_rfl) (fun _ _ _ h => h) (Or.inl ⟨by rfl, ?_⟩) ?_ ?_
                rotate_left
                · intro w'
                  go_simp
                  with_reducible rfl
                rotate_left
                · simp only [Act.put, List.setIfInBounds_toArray, List.set_cons_zero, List.set_cons_succ, i64_w, i32_w]
                  rfl
                refine pure_ (i := 5) (N := some 83) (v := ?_) (a' := ?_) #[true, true, true, true, false, true, false, false, false, false, false, false, false, false, false, false, false, false, false, false, false, false, false, false, false] rfl rfl (by kernel_rfl) (fun _ _ _ h => h) (Or.inl ⟨by rfl, ?_⟩) ?_ ?_
                rotate_left
                · intro w'
                  go_simp
                  with_reducible rfl
                rotate_left
                · simp only [Act.put, List.setIfInBounds_toArray, List.set_cons_zero, List.set_cons_succ, i64_w, i32_w]
                  rfl
                refine pure_ (i := 6) (N := some 84) (v := ?_) (a' := ?_) #[true, true, true, true, false, true, true, false, false, false, false, false, false, false, false, false, false, false, false, false, false, false, false, false, false] rfl rfl (by kernel_rfl) (fun _ _ _ h => h) (Or.inl ⟨by rfl, ?_⟩) ?_ ?_
                rotate_left
                · intro w'
                  go_simp
                  with_reducible rfl
                rotate_left
                · simp only [Act.put, List.setIfInBounds_toArray, List.set_cons_zero, List.set_cons_succ, i64_w, i32_w]
                  rfl
                refine pure_ (i := 7) (N := some 85) (v := ?_) (a' := ?_) #[true, true, true, true, false, true, true, true, false, false, false, false, false, false, false, false, false, false, false, false, false, false, false, false, false] rfl rfl (by kernel_rfl) (fun _ _ _ h => h) (Or.inl ⟨by rfl, ?_⟩) ?_ ?_
                rotate_left
                · intro w'
                  go_simp
                  with_reducible rfl
                rotate_left
                · simp only [Act.put, List.setIfInBounds_toArray, List.set_cons_zero, List.set_cons_succ, i64_w, i32_w]
                  rfl
                refine pure_ (i := 10) (N := some 88) (v := ?_) (a' := ?_) #[true, true, true, true, false, true, true, true, false, false, true, false, false, false, false, false, false, false, false, false, false, false, false, false, false] rfl rfl (by kernel_rfl) (fun _ _ _ h => h) (Or.inl ⟨by rfl, ?_⟩) ?_ ?_
                rotate_left
                · intro w'
                  go_simp
                  with_reducible rfl
                rotate_left
                · simp only [Act.put, List.setIfInBounds_toArray, List.set_cons_zero, List.set_cons_succ, i64_w, i32_w]
                  rfl
                refine pure_ (i := 11) (N := some 89) (v := ?_) (a' := ?_) #[true, true, true, true, false, true, true, true, false, false, true, true, false, false, false, false, false, false, false, false, false, false, false, false, false] rfl rfl (by kernel_rfl) (fun _ _ _ h => h) (Or.inl ⟨by rfl, ?_⟩) ?_ ?_
                rotate_left
                · intro w'
                  go_simp
                  with_reducible rfl
                rotate_left
                · simp only [Act.put, List.setIfInBounds_toArray, List.set_cons_zero, List.set_cons_succ, i64_w, i32_w]
                  rfl
                refine pure_ (i := 12) (N := some 90) (v := ?_) (a' := ?_) #[true, true, true, true, false, true, true, true, false, false, true, true, true, false, false, false, false, false, false, false, false, false, false, false, false] rfl rfl (by kernel_rfl) (fun _ _ _ h => h) (Or.inl ⟨by rfl, ?_⟩) ?_ ?_
                rotate_left
                · intro w'
                  go_simp
                  with_reducible rfl
                rotate_left
                · simp only [Act.put, List.setIfInBounds_toArray, List.set_cons_zero, List.set_cons_succ, i64_w, i32_w]
                  rfl
                refine pure_ (i := 15) (N := some 93) (v := ?_) (a' := ?_) #[true, true, true, true, false, true, true, true, false, false, true, true, true, false, false, true, false, false, false, false, false, false, false, false, false] rfl rfl (by kernel_rfl) (fun _ _ _ h => h) (Or.inl ⟨by rfl, ?_⟩) ?_ ?_
                rotate_left
                · intro w'
                  go_simp
                  with_reducible rfl
                rotate_left
                · simp only [Act.put, List.setIfInBounds_toArray, List.set_cons_zero, List.set_cons_succ, i64_w, i32_w]
                  rfl
                refine pure_ (i := 16) (N := some 94) (v := ?_) (a' := ?_) #[true, true, true, true, false, true, true, true, false, false, true, true, true, false, false, true, true, false, false, false, false, false, false, false, false] rfl rfl (by kernel_rfl) (fun _ _ _ h => h) (Or.inl ⟨by rfl, ?_⟩) ?_ ?_
                rotate_left
                · intro w'
                  go_simp
                  with_reducible rfl
                rotate_left
                · simp only [Act.put, List.setIfInBounds_toArray, List.set_cons_zero, List.set_cons_succ, i64_w, i32_w]
                  rfl
                refine pure_ (i := 17) (N := some 95) (v := ?_) (a' := ?_) #[true, true, true, true, false, true, true, true, false, false, true, true, true, false, false, true, true, true, false, false, false, false, false, false, false] rfl rfl (by kernel_rfl) (fun _ _ _ h => h) (Or.inl ⟨by rfl, ?_⟩) ?_ ?_
                rotate_left
                · intro w'
                  go_simp
                  with_reducible rfl
                rotate_left
                · simp only [Act.put, List.setIfInBounds_toArray, List.set_cons_zero, List.set_cons_succ, i64_w, i32_w]
                  rfl
                refine take_ (i := 4) (N := some 82) (v := ?_) (a' := ?_) #[true, true, true, true, true, true, true, true, false, false, true, true, true, false, false, true, true, true, false, false, false, false, false, false, false] rfl rfl (by kernel_rfl) (fun _ _ _ h => h) (Or.inl ⟨by rfl, ?_⟩) hHeld ?_ ?_
                rotate_left
                · rintro w' ⟨s0, s1, s2, s3⟩
                  go_simp
                  with_reducible rfl
                rotate_left
                · simp only [Act.put, List.setIfInBounds_toArray, List.set_cons_zero, List.set_cons_succ, i64_w, i32_w]
                  rfl
                refine take_ (i := 8) (N := some 86) (v := ?_) (a' := ?_) #[true, true, true, true, true, true, true, true, true, false, true, true, true, false, false, true, true, true, false, false, false, false, false, false, false] rfl rfl (by kernel_rfl) (fun _ _ _ h => h) (Or.inl ⟨by rfl, ?_⟩) hHeld ?_ ?_
                rotate_left
                · rintro w' ⟨s0, s1, s2, s3⟩
                  go_simp
                  with_reducible rfl
                rotate_left
                · simp only [Act.put, List.setIfInBounds_toArray, List.set_cons_zero, List.set_cons_succ, i64_w, i32_w]
                  rfl
                refine pure_ (i := 9) (N := some 87) (v := ?_) (a' := ?_) #[true, true, true, true, true, true, true, true, true, true, true, true, true, false, false, true, true, true, false, false, false, false, false, false, false] rfl rfl (by kernel_rfl) (fun _ _ _ h => h) (Or.inl ⟨by rfl, ?_⟩) ?_ ?_
                rotate_left
                · intro w'
                  go_simp
                  with_reducible rfl
                rotate_left
                · simp only [Act.put, List.setIfInBounds_toArray, List.set_cons_zero, List.set_cons_succ, i64_w, i32_w]
                  rfl
                refine take_ (i := 13) (N := some 91) (v := ?_) (a' := ?_) #[true, true, true, true, true, true, true, true, true, true, true, true, true, true, false, true, true, true, false, false, false, false, false, false, false] rfl rfl (by kernel_rfl) (fun _ _ _ h => h) (Or.inl ⟨by rfl, ?_⟩) hHeld ?_ ?_
                rotate_left
                · rintro w' ⟨s0, s1, s2, s3⟩
                  go_simp
                  with_reducible rfl
                rotate_left
                · simp only [Act.put, List.setIfInBounds_toArray, List.set_cons_zero, List.set_cons_succ, i64_w, i32_w]
                  rfl
                refine pure_ (i := 14) (N := some 92) (v := ?_) (a' := ?_) #[true, true, true, true, true, true, true, true, true, true, true, true, true, true, true, true, true, true, false, false, false, false, false, false, false] rfl rfl (by kernel_rfl) (fun _ _ _ h => h) (Or.inl ⟨by rfl, ?_⟩) ?_ ?_
                rotate_left
                · intro w'
                  go_simp
                  with_reducible rfl
                rotate_left
                · simp only [Act.put, List.setIfInBounds_toArray, List.set_cons_zero, List.set_cons_succ, i64_w, i32_w]
                  rfl
                refine take_ (i := 18) (N := some 96) (v := ?_) (a' := ?_) #[true, true, true, true, true, true, true, true, true, true, true, true, true, true, true, true, true, true, true, false, false, false, false, false, false] rfl rfl (by kernel_rfl) (fun _ _ _ h => h) (Or.inl ⟨by rfl, ?_⟩) hHeld ?_ ?_
                rotate_left
                · rintro w' ⟨s0, s1, s2, s3⟩
                  go_simp
                  with_reducible rfl
                rotate_left
                · simp only [Act.put, List.setIfInBounds_toArray, List.set_cons_zero, List.set_cons_succ, i64_w, i32_w]
                  rfl
                refine pure_ (i := 19) (N := some 97) (v := ?_) (a' := ?_) #[true, true, true, true, true, true, true, true, true, true, true, true, true, true, true, true, true, true, true, true, false, false, false, false, false] rfl rfl (by kernel_rfl) (fun _ _ _ h => h) (Or.inl ⟨by rfl, ?_⟩) ?_ ?_
                rotate_left
                · intro w'
                  go_simp
                  with_reducible rfl
                rotate_left
                · simp only [Act.put, List.setIfInBounds_toArray, List.set_cons_zero, List.set_cons_succ, i64_w, i32_w]
                  rfl
                refine one_ (i := 20) (N := some 98) #[true, true, true, true, true, true, true, true, true, true, true, true, true, true, true, true, true, true, true, true, true, false, false, false, false] rfl rfl (by kernel_rfl) (by decide) (fun K hK => ?_)
                refine value_ (w1 := ?_) (v := ?_) (by rfl) rfl ?_ ?_
                rotate_left 2
                · go_simp
                  constructor
                  · rfl
                  · rfl
                have hb : Below wd.drew.heap.size wd.drew (wd.drew.alloc (Obj.cells #[.int .i64 cc.f0, .int .i64 oo.f0, .slice A7 bb.f1.length n7] 54)) := (Below.refl _ wd.drew).alloc (Nat.le_refl _) _
                have HD2 := Aside0.mk (HD.out.trans (hb.mono HD.out.size))
                clear hb
                refine hK.out _ _ (HC.out _ HD2.out) (fun hHeld => ?_)
                clear hK K
                refine norm_ (a' := ?_) ?_ ?_
                rotate_left
                · show Act.put _ (some 98) _ = _
                  simp only [Act.put, List.setIfInBounds_toArray, List.set_cons_zero, List.set_cons_succ, i64_w, i32_w]
                  rfl
                refine one_ (i := 21) (N := some 99) #[true, true, true, true, true, true, true, true, true, true, true, true, true, true, true, true, true, true, true, true, true, true, false, false, false] rfl rfl (by kernel_rfl) (by decide) (fun K hK => ?_)
                refine Kd.R_append_step k54 (w0 := wd.drew) (W := wd.drew) B (by rfl) (.tmp 82) (.tmp 98) 46 54 (.agg #[.int .i64 0, .int .i64 0, .slice none 0 0]) 40 rfl Try.underlying46 info54 rfl (by decide) (by decide) (.slice Ar i n) T (cc.f0, oo.f0, A7, bb.f1.length, n7) [.int .i64 cc.f0, .int .i64 oo.f0, .slice A7 bb.f1.length n7] (fun k => B ≤ k) (fun _ => False) (by rfl) (by rfl) (k54_mkM _ _ _ (cc.f0, oo.f0, A7, bb.f1.length, n7)) (fun _ h => h.elim) (fun k hk => Nat.le_trans HBD.out hk) (Kd.R_drew HRD.out) (Below.refl _ _) HBD.out (by rw [HLI.out]; omega) ?_
                intro v9 w9 hr9 hb9 hg9 hat9
                obtain ⟨A9, c9, rfl⟩ := Kd.R_slice hr9
                rw [HL2.out] at hr9 ⊢
                have HR9 := Aside0.mk hr9
                have HG9 : Aside0 (wd.grownBy w9 (Value.slice Ar i n).ownBlock) := ⟨World.grownBy.trans (grown_of_below (Below.refl _ wd).drew _) hg9⟩
                have KQ9 := Aside0.mk (blk_grown KQD.out HG9.out (fun e => by have h := Kd.R_base HRD.out _ e.symm; have := HQB.out; omega))
                have hnx : some adx.block ≠ (Value.slice Ar i n).ownBlock := fun e => by have h := Kd.R_base HRD.out _ e.symm; have := HXB.out; omega
                have ADX9 : Aside0 (w9.cell? adx = some (.int .u64 cc.f0) ∧ w9.cell? ⟨adx.block, adx.off + 3, none⟩ = some (.int .u64 oo.f0) ∧ w9.cell? ⟨adx.block, adx.off + 7, none⟩ = some (.slice A7 bb.f1.length n7)) := ⟨⟨(World.cell?_of_block (w := wd) (w' := w9) (HG9.out.block _ (cell_lt CX.out.1) hnx)).trans CX.out.1, (World.cell?_of_block (w := wd) (w' := w9) (a := ⟨adx.block, adx.off + 3, none⟩) (HG9.out.block _ (cell_lt CX.out.2.1) hnx)).trans CX.out.2.1, (World.cell?_of_block (w := wd) (w' := w9) (a := ⟨adx.block, adx.off + 7, none⟩) (HG9.out.block _ (cell_lt CX.out.2.2) hnx)).trans CX.out.2.2⟩⟩
                clear hnx
                clear hr9 hb9 hg9 hat9
                refine hK.out _ _ (⟨(blk_cell KQ9.out 0).trans rfl, ADX9.out⟩) (fun hHeld => ?_)
                clear hK K
                refine norm_ (a' := ?_) ?_ ?_
                rotate_left
                · show Act.put _ (some 99) _ = _
                  simp only [Act.put, List.setIfInBounds_toArray, List.set_cons_zero, List.set_cons_succ, i64_w, i32_w]
                  rfl
                refine pure_ (i := 22) (N := some 100) (v := ?_) (a' := ?_) #[true, true, true, true, true, true, true, true, true, true, true, true, true, true, true, true, true, true, true, true, true, true, true, false, false] rfl rfl (by kernel_rfl) (fun _ _ _ h => h) (Or.inl ⟨by rfl, ?_⟩) ?_ ?_
                rotate_left
                · intro w'
                  go_simp
                  with_reducible rfl
                rotate_left
                · simp only [Act.put, List.setIfInBounds_toArray, List.set_cons_zero, List.set_cons_succ, i64_w, i32_w]
                  rfl
                refine pure_ (i := 23) (N := some 101) (v := ?_) (a' := ?_) #[true, true, true, true, true, true, true, true, true, true, true, true, true, true, true, true, true, true, true, true, true, true, true, true, false] rfl rfl (by kernel_rfl) (fun _ _ _ h => h) (Or.inl ⟨by rfl, ?_⟩) ?_ ?_
                rotate_left
                · intro w'
                  go_simp
                  with_reducible rfl
                rotate_left
                · simp only [Act.put, List.setIfInBounds_toArray, List.set_cons_zero, List.set_cons_succ, i64_w, i32_w]
                  rfl
                refine last_ (i := 24) (N := none) #[true, true, true, true, true, true, true, true, true, true, true, true, true, true, true, true, true, true, true, true, true, true, true, true, true] rfl rfl (by kernel_rfl) (by decide) (fun K hK => ?_)
                have hq9 := (blk_cell KQ9.out 0).trans (show _ = some (Value.slice Ar i n) from rfl)
                have hf9 := blk_frozen KQ9.out 0
                refine skip_ (w1 := ?_) (by rfl) rfl ?_ ?_
                rotate_left
                · go_simp
                  rfl
                clear hq9 hf9
                refine hK.out _ _ ?_
                clear hK K
                refine done_ (by kernel_rfl) ?_
                have KQn : Aside0 ((w9.setCell ⟨q, 0, none⟩ (.slice A9 (i + 1) c9)).heap[q]? = some (.cells #[.slice A9 (i + 1) c9] 48 (0, 0))) := ⟨blk_put (cs := #[.slice Ar i n]) KQ9.out 0 _ rfl⟩
                have HRn : Aside0 (Kd.R k54 54 (w9.setCell ⟨q, 0, none⟩ (.slice A9 (i + 1) c9)) B (fun k => B ≤ k) (.slice A9 (i + 1) c9) (T ++ [(cc.f0, oo.f0, A7, bb.f1.length, n7)])) := ⟨Kd.R_step HR9.out (fun k hk _ => Below.heap_setCell w9 ⟨q, 0, none⟩ _ k (by have h1 : B ≤ k := hk; have := HQB.out; show k ≠ q; omega))⟩
                have HBn : Aside0 (Below w2.heap.size w2 (w9.setCell ⟨q, 0, none⟩ (.slice A9 (i + 1) c9))) := ⟨(pw_below_grown HB2d.out _ HB2d.out.size HG9.out (fun k hk => by have := Kd.R_base HRD.out k hk; have := HSB.out; omega)).setCell (p := ⟨q, 0, none⟩) HQS.out _⟩
                have HWn : Aside0 (B ≤ (w9.setCell ⟨q, 0, none⟩ (.slice A9 (i + 1) c9)).heap.size) := ⟨by have := HG9.out.size; have := HBD.out; simp [World.setCell]; omega⟩
                clear hHeld HC HD HD2 KQ9 HR9 HG9 ADX9 HRD KQD CX HB2d HBD
                generalize w9.setCell ⟨q, 0, none⟩ (.slice A9 (i + 1) c9) = w10 at *
                go_wp2_with fail
                go_roundg (v.f2.length - (i + 1))
                case measure => omega
                case rel => exact ⟨i + 1, A9, c9, _, by go_num, by omega, HGN, HTM, KQn, HRn, HBn, HWn⟩
              · obtain ⟨j, rfl⟩ : ∃ j, i = j + 1 := ⟨i - 1, by omega⟩
                have hjl : j < (trs v).length := by simp [trs]; omega
                have hlk : lastK (-1) ((trs v).take (j + 1)) = (trs v)[j].1 := lastK_at _ _ hjl
                have hjT : j < T.length := by rw [HLI.out]; omega
                have hTj : T[j].1 = (trs v)[j].1 := by
                  have h := congrArg (fun l => l[j]?) HTT.out
                  simp only [List.getElem?_map, List.getElem?_take] at h
                  rw [if_pos (by omega), List.getElem?_eq_getElem hjT, List.getElem?_eq_getElem hjl] at h
                  simpa using h
                have hrow := (Kd.R_reads' HR.out).2.2
                obtain ⟨adr, rfl, u0⟩ := at_54 hrow j hjT hjT
                rw [hTj, ← hlk] at u0
                clear hrow hlk hTj
                obtain ⟨lk, hlk⟩ : ∃ lk, lastK (-1) ((trs v).take (j + 1)) = lk := ⟨_, rfl⟩
                rw [hlk] at u0 HBAD HSTEP
                by_cases h5 : cc.f0 ≤ lk
                · have t5 : decide (cc.f0 ≤ lk) = true := decide_eq_true h5
                  clear hlk
                  go_wp2_with fail
                  go_big_quiet (fail)
                  go_wp2_with fail
                  go_ret2
                  rw [HPO.out, if_neg (by rw [HBAD.out (by rw [show decide (lk < cc.f0) = false from decide_eq_false (by omega), Bool.and_false])]; decide)]
                  exact ⟨pw_below_drewN HBWW.out _, .inl ⟨rfl, rfl⟩⟩
                · have t5 : decide (cc.f0 ≤ lk) = false := decide_eq_false h5
                  have HLT : Aside0 (decide (lk < cc.f0) = true) := ⟨decide_eq_true (by omega)⟩
                  clear hlk
                  go_wp2_with fail
                  go_big_quiet (fail)
                  go_upto_region 13 with fail
                  rename Nat => nd
                  obtain ⟨wd, hwd⟩ : ∃ wd, wr.drewN nd = wd := ⟨_, rfl⟩
                  have HBr : Aside0 (Below wr.heap.size wr wd) := ⟨by rw [← hwd]; exact pw_below_drewN (Below.refl _ _) nd⟩
                  rw [hwd]
                  clear hwd
                  have KQD := Aside0.mk (blk_below KQ.out HBr.out)
                  have HRD := Aside0.mk (Kd.R_below HR.out HBr.out)
                  have CX := Aside0.mk (And.intro ((HBr.out.cell (cell_lt r0)).trans r0) (And.intro ((HBr.out.cell (cell_lt r3)).trans r3) ((HBr.out.cell (cell_lt r7)).trans r7)))
                  have HBD : Aside0 (B ≤ wd.heap.size) := ⟨Nat.le_trans HBW.out HBr.out.size⟩
                  have HB2d := Aside0.mk (HB.out.trans (HBr.out.mono HB.out.size))
                  have HTM : Aside0 ((T ++ [(cc.f0, oo.f0, A7, bb.f1.length, n7)]).map (·.1) = ((trs v).take (j + 1 + 1)).map (·.1)) := ⟨by rw [HTK.out, List.map_append, List.map_append, HTT.out]; rfl⟩
                  have HL2 : Aside0 ((T ++ [((cc.f0, oo.f0, A7, bb.f1.length, n7) : L54)]).length = (j + 1) + 1) := ⟨by rw [List.length_append, HLI.out]; rfl⟩
                  have HGN := Aside0.mk (HSTEP.out (by rw [hrb, HLT.out]; rfl))
                  have HD : Aside0 (Below wd.heap.size wd wd.drew) := ⟨(Below.refl _ _).drew⟩
                  have HC : Aside0 (∀ w', Below wd.heap.size wd w' → w'.cell? ⟨q, 0, none⟩ = some (.slice (some adr) (j + 1) n) ∧ w'.cell? adx = some (.int .u64 cc.f0) ∧ w'.cell? ⟨adx.block, adx.off + 3, none⟩ = some (.int .u64 oo.f0) ∧ w'.cell? ⟨adx.block, adx.off + 7, none⟩ = some (.slice A7 bb.f1.length n7)) := ⟨fun w' hW => ⟨(blk_cell (blk_below KQD.out hW) 0).trans rfl, pw_cell_below hW CX.out.1, pw_cell_below hW CX.out.2.1, pw_cell_below hW CX.out.2.2⟩⟩
                  clear HR KQ HB HBW HBr r0 r3 kq1 y2' r7 k2 HBWW HGD HBAD HSTEP HTK
                  refine start_ (n := 25) (S := fun w' => w'.cell? ⟨q, 0, none⟩ = some (.slice (some adr) (j + 1) n) ∧ w'.cell? adx = some (.int .u64 cc.f0) ∧ w'.cell? ⟨adx.block, adx.off + 3, none⟩ = some (.int .u64 oo.f0) ∧ w'.cell? ⟨adx.block, adx.off + 7, none⟩ = some (.slice A7 bb.f1.length n7)) (ds := [24]) #[false, false, false, false, false, false, false, false, false, false, false, false, false, false, false, false, false, false, false, false, false, false, false, false, false] (by kernel_rfl) rfl rfl (HC.out _ HD.out) (fun hHeld => ?_)
                  refine pure_ (i := 0) (N := some 78) (v := ?_) (a' := ?_) #[true, false, false, false, false, false, false, false, false, false, false, false, false, false, false, false, false, false, false, false, false, false, false, false, false] rfl rfl (by kernel_rfl) (fun _ _ _ h => h) (Or.inl ⟨by rfl, ?_⟩) ?_ ?_
                  rotate_left
                  · intro w'
                    go_simp
                    with_reducible rfl
                  rotate_left
                  · simp only [Act.put, List.setIfInBounds_toArray, List.set_cons_zero, List.set_cons_succ, i64_w, i32_w]
                    rfl
                  refine pure_ (i := 1) (N := some 79) (v := ?_) (a' := ?_) #[true, true, false, false, false, false, false, false, false, false, false, false, false, false, false, false, false, false, false, false, false, false, false, false, false] rfl rfl (by kernel_rfl) (fun _ _ _ h => h) (Or.inl ⟨by rfl, ?_⟩) ?_ ?_
                  rotate_left
                  · intro w'
                    go_simp
                    with_reducible rfl
                  rotate_left
                  · simp only [Act.put, List.setIfInBounds_toArray, List.set_cons_zero, List.set_cons_succ, i64_w, i32_w]
                    rfl
                  refine pure_ (i := 2) (N := some 80) (v := ?_) (a' := ?_) #[true, true, true, false, false, false, false, false, false, false, false, false, false, false, false, false, false, false, false, false, false, false, false, false, false] rfl rfl (by kernel_rfl) (fun _ _ _ h => h) (Or.inl ⟨by rfl, ?_⟩) ?_ ?_
                  rotate_left
                  · intro w'
                    go_simp
                    with_reducible rfl
                  rotate_left
                  · simp only [Act.put, List.setIfInBounds_toArray, List.set_cons_zero, List.set_cons_succ, i64_w, i32_w]
                    rfl
                  refine pure_ (i := 3) (N := some 81) (v := ?_) (a' := ?_) #[true, true, true, true, false, false, false, false, false, false, false, false, false, false, false, false, false, false, false, false, false, false, false, false, false] rfl rfl (by kernel_rfl) (fun _ _ _ h => h) (Or.inl ⟨by rfl, ?_⟩) ?_ ?_
                  rotate_left
                  · intro w'
                    go_simp
                    with_reducible rfl
                  rotate_left
                  · simp only [Act.put, List.setIfInBounds_toArray, List.set_cons_zero, List.set_cons_succ, i64_w, i32_w]
                    rfl
                  refine pure_ (i := 5) (N := some 83) (v := ?_) (a' := ?_) #[true, true, true, true, false, true, false, false, false, false, false, false, false, false, false, false, false, false, false, false, false, false, false, false, false] rfl rfl (by kernel_rfl) (fun _ _ _ h => h) (Or.inl ⟨by rfl, ?_⟩) ?_ ?_
                  rotate_left
                  · intro w'
                    go_simp
                    with_reducible rfl
                  rotate_left
                  · simp only [Act.put, List.setIfInBounds_toArray, List.set_cons_zero, List.set_cons_succ, i64_w, i32_w]
                    rfl
                  refine pure_ (i := 6) (N := some 84) (v := ?_) (a' := ?_) #[true, true, true, true, false, true, true, false, false, false, false, false, false, false, false, false, false, false, false, false, false, false, false, false, false] rfl rfl (by kernel_rfl) (fun _ _ _ h => h) (Or.inl ⟨by rfl, ?_⟩) ?_ ?_
                  rotate_left
                  · intro w'
                    go_simp
                    with_reducible rfl
                  rotate_left
                  · simp only [Act.put, List.setIfInBounds_toArray, List.set_cons_zero, List.set_cons_succ, i64_w, i32_w]
                    rfl
                  refine pure_ (i := 7) (N := some 85) (v := ?_) (a' := ?_) #[true, true, true, true, false, true, true, true, false, false, false, false, false, false, false, false, false, false, false, false, false, false, false, false, false] rfl rfl (by kernel_rfl) (fun _ _ _ h => h) (Or.inl ⟨by rfl, ?_⟩) ?_ ?_
                  rotate_left
                  · intro w'
                    go_simp
                    with_reducible rfl
                  rotate_left
                  · simp only [Act.put, List.setIfInBounds_toArray, List.set_cons_zero, List.set_cons_succ, i64_w, i32_w]
                    rfl
                  refine pure_ (i := 10) (N := some 88) (v := ?_) (a' := ?_) #[true, true, true, true, false, true, true, true, false, false, true, false, false, false, false, false, false, false, false, false, false, false, false, false, false] rfl rfl (by kernel_rfl) (fun _ _ _ h => h) (Or.inl ⟨by rfl, ?_⟩) ?_ ?_
                  rotate_left
                  · intro w'
                    go_simp
                    with_reducible rfl
                  rotate_left
                  · simp only [Act.put, List.setIfInBounds_toArray, List.set_cons_zero, List.set_cons_succ, i64_w, i32_w]
                    rfl
                  refine pure_ (i := 11) (N := some 89) (v := ?_) (a' := ?_) #[true, true, true, true, false, true, true, true, false, false, true, true, false, false, false, false, false, false, false, false, false, false, false, false, false] rfl rfl (by kernel_rfl) (fun _ _ _ h => h) (Or.inl ⟨by rfl, ?_⟩) ?_ ?_
                  rotate_left
                  · intro w'
                    go_simp
                    with_reducible rfl
                  rotate_left
                  · simp only [Act.put, List.setIfInBounds_toArray, List.set_cons_zero, List.set_cons_succ, i64_w, i32_w]
                    rfl
                  refine pure_ (i := 12) (N := some 90) (v := ?_) (a' := ?_) #[true, true, true, true, false, true, true, true, false, false, true, true, true, false, false, false, false, false, false, false, false, false, false, false, false] rfl rfl (by kernel_rfl) (fun _ _ _ h => h) (Or.inl ⟨by rfl, ?_⟩) ?_ ?_
                  rotate_left
                  · intro w'
                    go_simp
                    with_reducible rfl
                  rotate_left
                  · simp only [Act.put, List.setIfInBounds_toArray, List.set_cons_zero, List.set_cons_succ, i64_w, i32_w]
                    rfl
                  refine pure_ (i := 15) (N := some 93) (v := ?_) (a' := ?_) #[true, true, true, true, false, true, true, true, false, false, true, true, true, false, false, true, false, false, false, false, false, false, false, false, false] rfl rfl (by kernel_rfl) (fun _ _ _ h => h) (Or.inl ⟨by rfl, ?_⟩) ?_ ?_
                  rotate_left
                  · intro w'
                    go_simp
                    with_reducible rfl
                  rotate_left
                  · simp only [Act.put, List.setIfInBounds_toArray, List.set_cons_zero, List.set_cons_succ, i64_w, i32_w]
                    rfl
                  refine pure_ (i := 16) (N := some 94) (v := ?_) (a' := ?_) #[true, true, true, true, false, true, true, true, false, false, true, true, true, false, false, true, true, false, false, false, false, false, false, false, false] rfl rfl (by kernel_rfl) (fun _ _ _ h => h) (Or.inl ⟨by rfl, ?_⟩) ?_ ?_
                  rotate_left
                  · intro w'
                    go_simp
                    with_reducible rfl
                  rotate_left
                  · simp only [Act.put, List.setIfInBounds_toArray, List.set_cons_zero, List.set_cons_succ, i64_w, i32_w]
                    rfl
                  refine pure_ (i := 17) (N := some 95) (v := ?_) (a' := ?_) #[true, true, true, true, false, true, true, true, false, false, true, true, true, false, false, true, true, true, false, false, false, false, false, false, false] rfl rfl (by kernel_rfl) (fun _ _ _ h => h) (Or.inl ⟨by rfl, ?_⟩) ?_ ?_
                  rotate_left
                  · intro w'
                    go_simp
                    with_reducible rfl
                  rotate_left
                  · simp only [Act.put, List.setIfInBounds_toArray, List.set_cons_zero, List.set_cons_succ, i64_w, i32_w]
                    rfl
                  refine take_ (i := 4) (N := some 82) (v := ?_) (a' := ?_) #[true, true, true, true, true, true, true, true, false, false, true, true, true, false, false, true, true, true, false, false, false, false, false, false, false] rfl rfl (by kernel_rfl) (fun _ _ _ h => h) (Or.inl ⟨by rfl, ?_⟩) hHeld ?_ ?_
                  rotate_left
                  · rintro w' ⟨s0, s1, s2, s3⟩
                    go_simp
                    with_reducible rfl
                  rotate_left
                  · simp only [Act.put, List.setIfInBounds_toArray, List.set_cons_zero, List.set_cons_succ, i64_w, i32_w]
                    rfl
                  refine take_ (i := 8) (N := some 86) (v := ?_) (a' := ?_) #[true, true, true, true, true, true, true, true, true, false, true, true, true, false, false, true, true, true, false, false, false, false, false, false, false] rfl rfl (by kernel_rfl) (fun _ _ _ h => h) (Or.inl ⟨by rfl, ?_⟩) hHeld ?_ ?_
                  rotate_left
                  · rintro w' ⟨s0, s1, s2, s3⟩
                    go_simp
                    with_reducible rfl
                  rotate_left
                  · simp only [Act.put, List.setIfInBounds_toArray, List.set_cons_zero, List.set_cons_succ, i64_w, i32_w]
                    rfl
                  refine pure_ (i := 9) (N := some 87) (v := ?_) (a' := ?_) #[true, true, true, true, true, true, true, true, true, true, true, true, true, false, false, true, true, true, false, false, false, false, false, false, false] rfl rfl (by kernel_rfl) (fun _ _ _ h => h) (Or.inl ⟨by rfl, ?_⟩) ?_ ?_
                  rotate_left
                  · intro w'
                    go_simp
                    with_reducible rfl
                  rotate_left
                  · simp only [Act.put, List.setIfInBounds_toArray, List.set_cons_zero, List.set_cons_succ, i64_w, i32_w]
                    rfl
                  refine take_ (i := 13) (N := some 91) (v := ?_) (a' := ?_) #[true, true, true, true, true, true, true, true, true, true, true, true, true, true, false, true, true, true, false, false, false, false, false, false, false] rfl rfl (by kernel_rfl) (fun _ _ _ h => h) (Or.inl ⟨by rfl, ?_⟩) hHeld ?_ ?_
                  rotate_left
                  · rintro w' ⟨s0, s1, s2, s3⟩
                    go_simp
                    with_reducible rfl
                  rotate_left
                  · simp only [Act.put, List.setIfInBounds_toArray, List.set_cons_zero, List.set_cons_succ, i64_w, i32_w]
                    rfl
                  refine pure_ (i := 14) (N := some 92) (v := ?_) (a' := ?_) #[true, true, true, true, true, true, true, true, true, true, true, true, true, true, true, true, true, true, false, false, false, false, false, false, false] rfl rfl (by kernel_rfl) (fun _ _ _ h => h) (Or.inl ⟨by rfl, ?_⟩) ?_ ?_
                  rotate_left
                  · intro w'
                    go_simp
                    with_reducible rfl
                  rotate_left
                  · simp only [Act.put, List.setIfInBounds_toArray, List.set_cons_zero, List.set_cons_succ, i64_w, i32_w]
                    rfl
                  refine take_ (i := 18) (N := some 96) (v := ?_) (a' := ?_) #[true, true, true, true, true, true, true, true, true, true, true, true, true, true, true, true, true, true, true, false, false, false, false, false, false] rfl rfl (by kernel_rfl) (fun _ _ _ h => h) (Or.inl ⟨by rfl, ?_⟩) hHeld ?_ ?_
                  rotate_left
                  · rintro w' ⟨s0, s1, s2, s3⟩
                    go_simp
                    with_reducible rfl
                  rotate_left
                  · simp only [Act.put, List.setIfInBounds_toArray, List.set_cons_zero, List.set_cons_succ, i64_w, i32_w]
                    rfl
                  refine pure_ (i := 19) (N := some 97) (v := ?_) (a' := ?_) #[true, true, true, true, true, true, true, true, true, true, true, true, true, true, true, true, true, true, true, true, false, false, false, false, false] rfl rfl (by kernel_rfl) (fun _ _ _ h => h) (Or.inl ⟨by rfl, ?_⟩) ?_ ?_
                  rotate_left
                  · intro w'
                    go_simp
                    with_reducible rfl
                  rotate_left
                  · simp only [Act.put, List.setIfInBounds_toArray, List.set_cons_zero, List.set_cons_succ, i64_w, i32_w]
                    rfl
                  refine one_ (i := 20) (N := some 98) #[true, true, true, true, true, true, true, true, true, true, true, true, true, true, true, true, true, true, true, true, true, false, false, false, false] rfl rfl (by kernel_rfl) (by decide) (fun K hK => ?_)
                  refine value_ (w1 := ?_) (v := ?_) (by rfl) rfl ?_ ?_
                  rotate_left 2
                  · go_simp
                    constructor
                    · rfl
                    · rfl
                  have hb : Below wd.drew.heap.size wd.drew (wd.drew.alloc (Obj.cells #[.int .i64 cc.f0, .int .i64 oo.f0, .slice A7 bb.f1.length n7] 54)) := (Below.refl _ wd.drew).alloc (Nat.le_refl _) _
                  have HD2 := Aside0.mk (HD.out.trans (hb.mono HD.out.size))
                  clear hb
                  refine hK.out _ _ (HC.out _ HD2.out) (fun hHeld => ?_)
                  clear hK K
                  refine norm_ (a' := ?_) ?_ ?_
                  rotate_left
                  · show Act.put _ (some 98) _ = _
                    simp only [Act.put, List.setIfInBounds_toArray, List.set_cons_zero, List.set_cons_succ, i64_w, i32_w]
                    rfl
                  refine one_ (i := 21) (N := some 99) #[true, true, true, true, true, true, true, true, true, true, true, true, true, true, true, true, true, true, true, true, true, true, false, false, false] rfl rfl (by kernel_rfl) (by decide) (fun K hK => ?_)
                  refine Kd.R_append_step k54 (w0 := wd.drew) (W := wd.drew) B (by rfl) (.tmp 82) (.tmp 98) 46 54 (.agg #[.int .i64 0, .int .i64 0, .slice none 0 0]) 40 rfl Try.underlying46 info54 rfl (by decide) (by decide) (.slice (some adr) (j + 1) n) T (cc.f0, oo.f0, A7, bb.f1.length, n7) [.int .i64 cc.f0, .int .i64 oo.f0, .slice A7 bb.f1.length n7] (fun k => B ≤ k) (fun _ => False) (by rfl) (by rfl) (k54_mkM _ _ _ (cc.f0, oo.f0, A7, bb.f1.length, n7)) (fun _ h => h.elim) (fun k hk => Nat.le_trans HBD.out hk) (Kd.R_drew HRD.out) (Below.refl _ _) HBD.out (by rw [HLI.out]; omega) ?_
                  intro v9 w9 hr9 hb9 hg9 hat9
                  obtain ⟨A9, c9, rfl⟩ := Kd.R_slice hr9
                  rw [HL2.out] at hr9 ⊢
                  have HR9 := Aside0.mk hr9
                  have HG9 : Aside0 (wd.grownBy w9 (Value.slice (some adr) (j + 1) n).ownBlock) := ⟨World.grownBy.trans (grown_of_below (Below.refl _ wd).drew _) hg9⟩
                  have KQ9 := Aside0.mk (blk_grown KQD.out HG9.out (fun e => by have h := Kd.R_base HRD.out _ e.symm; have := HQB.out; omega))
                  have hnx : some adx.block ≠ (Value.slice (some adr) (j + 1) n).ownBlock := fun e => by have h := Kd.R_base HRD.out _ e.symm; have := HXB.out; omega
                  have ADX9 : Aside0 (w9.cell? adx = some (.int .u64 cc.f0) ∧ w9.cell? ⟨adx.block, adx.off + 3, none⟩ = some (.int .u64 oo.f0) ∧ w9.cell? ⟨adx.block, adx.off + 7, none⟩ = some (.slice A7 bb.f1.length n7)) := ⟨⟨(World.cell?_of_block (w := wd) (w' := w9) (HG9.out.block _ (cell_lt CX.out.1) hnx)).trans CX.out.1, (World.cell?_of_block (w := wd) (w' := w9) (a := ⟨adx.block, adx.off + 3, none⟩) (HG9.out.block _ (cell_lt CX.out.2.1) hnx)).trans CX.out.2.1, (World.cell?_of_block (w := wd) (w' := w9) (a := ⟨adx.block, adx.off + 7, none⟩) (HG9.out.block _ (cell_lt CX.out.2.2) hnx)).trans CX.out.2.2⟩⟩
                  clear hnx
                  clear hr9 hb9 hg9 hat9
                  refine hK.out _ _ (⟨(blk_cell KQ9.out 0).trans rfl, ADX9.out⟩) (fun hHeld => ?_)
                  clear hK K
                  refine norm_ (a' := ?_) ?_ ?_
                  rotate_left
                  · show Act.put _ (some 99) _ = _
                    simp only [Act.put, List.setIfInBounds_toArray, List.set_cons_zero, List.set_cons_succ, i64_w, i32_w]
                    rfl
                  refine pure_ (i := 22) (N := some 100) (v := ?_) (a' := ?_) #[true, true, true, true, true, true, true, true, true, true, true, true, true, true, true, true, true, true, true, true, true, true, true, false, false] rfl rfl (by kernel_rfl) (fun _ _ _ h => h) (Or.inl ⟨by rfl, ?_⟩) ?_ ?_
                  rotate_left
                  · intro w'
                    go_simp
                    with_reducible rfl
                  rotate_left
                  · simp only [Act.put, List.setIfInBounds_toArray, List.set_cons_zero, List.set_cons_succ, i64_w, i32_w]
                    rfl
                  refine pure_ (i := 23) (N := some 101) (v := ?_) (a' := ?_) #[true, true, true, true, true, true, true, true, true, true, true, true, true, true, true, true, true, true, true, true, true, true, true, true, false] rfl rfl (by kernel_rfl) (fun _ _ _ h => h) (Or.inl ⟨by rfl, ?_⟩) ?_ ?_
                  rotate_left
                  · intro w'
                    go_simp
                    with_reducible rfl
                  rotate_left
                  · simp only [Act.put, List.setIfInBounds_toArray, List.set_cons_zero, List.set_cons_succ, i64_w, i32_w]
                    rfl
                  refine last_ (i := 24) (N := none) #[true, true, true, true, true, true, true, true, true, true, true, true, true, true, true, true, true, true, true, true, true, true, true, true, true] rfl rfl (by kernel_rfl) (by decide) (fun K hK => ?_)
                  have hq9 := (blk_cell KQ9.out 0).trans (show _ = some (Value.slice (some adr) (j + 1) n) from rfl)
                  have hf9 := blk_frozen KQ9.out 0
                  refine skip_ (w1 := ?_) (by rfl) rfl ?_ ?_
                  rotate_left
                  · go_simp
                    rfl
                  clear hq9 hf9
                  refine hK.out _ _ ?_
                  clear hK K
                  refine done_ (by kernel_rfl) ?_
                  have KQn : Aside0 ((w9.setCell ⟨q, 0, none⟩ (.slice A9 (j + 1 + 1) c9)).heap[q]? = some (.cells #[.slice A9 (j + 1 + 1) c9] 48 (0, 0))) := ⟨blk_put (cs := #[.slice (some adr) (j + 1) n]) KQ9.out 0 _ rfl⟩
                  have HRn : Aside0 (Kd.R k54 54 (w9.setCell ⟨q, 0, none⟩ (.slice A9 (j + 1 + 1) c9)) B (fun k => B ≤ k) (.slice A9 (j + 1 + 1) c9) (T ++ [(cc.f0, oo.f0, A7, bb.f1.length, n7)])) := ⟨Kd.R_step HR9.out (fun k hk _ => Below.heap_setCell w9 ⟨q, 0, none⟩ _ k (by have h1 : B ≤ k := hk; have := HQB.out; show k ≠ q; omega))⟩
                  have HBn : Aside0 (Below w2.heap.size w2 (w9.setCell ⟨q, 0, none⟩ (.slice A9 (j + 1 + 1) c9))) := ⟨(pw_below_grown HB2d.out _ HB2d.out.size HG9.out (fun k hk => by have := Kd.R_base HRD.out k hk; have := HSB.out; omega)).setCell (p := ⟨q, 0, none⟩) HQS.out _⟩
                  have HWn : Aside0 (B ≤ (w9.setCell ⟨q, 0, none⟩ (.slice A9 (j + 1 + 1) c9)).heap.size) := ⟨by have := HG9.out.size; have := HBD.out; simp [World.setCell]; omega⟩
                  clear hHeld HC HD HD2 KQ9 HR9 HG9 ADX9 HRD KQD CX HB2d HBD
                  generalize w9.setCell ⟨q, 0, none⟩ (.slice A9 (j + 1 + 1) c9) = w10 at *
                  go_wp2_with fail
                  go_roundg (v.f2.length - (j + 1 + 1))
                  case measure => omega
                  case rel => exact ⟨(j + 1) + 1, A9, c9, _, by go_num, by omega, HGN, HTM, KQn, HRn, HBn, HWn⟩
      · have hge : ¬ (i : Int) < (v.f2.length : Int) := by omega
        obtain rfl : i = v.f2.length := by omega
        have e : (trs v).take v.f2.length = trs v := List.take_of_length_le (by simp [trs])
        rw [e] at HGD
        go_wp2_with fail
        go_ret2
        rw [HPO.out, if_pos HGD.out]
        exact ⟨HB2.out.trans (HB.out.mono HB2.out.size), .inr ⟨_, q, Ar, n, rfl, rfl, by have := KQ.out; simpa [trs] using this⟩⟩
end Go.Proofs.Ytnkpleggmiamdaa.Sp
