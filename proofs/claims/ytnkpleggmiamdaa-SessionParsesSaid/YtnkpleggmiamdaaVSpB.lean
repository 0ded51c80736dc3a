/- Kept of the text SpB: what is reached (wip/tools/prune.py). -/
import Derived.Test.YtnkpleggmiamdaaVSpA
import Derived.Test.YtnkpleggmiamdaaVG7
import Derived.BigQuiet
namespace Go.Proofs.Ytnkpleggmiamdaa.Sp
open Go.RowKit Go.Maps Go.Proofs.YtnkpleggmiamdaaW.PrintWords Go.Proofs.YtnkpleggmiamdaaW.PrintLast Go.Proofs.YtnkpleggmiamdaaW.PrintMore
open Go.Proofs.Ytnkpleggmiamdaa.PSessionParses (S105 z105 k105 rd_T105 at_T105 k105_openM)
open Go.Proofs.Ytnkpleggmiamdaa.Mo Go.Proofs.Ytnkpleggmiamdaa.Mp
open Go.Proofs.Ytnkpleggmiamdaa.Se (rightF Rec encR r0 Bs RecOk TabIs TableIs View view)
set_option linter.unusedVariables false
set_option linter.unusedSimpArgs false
theorem add_k (ad : Addr) (k : Nat) (hk : 0 < k) : ad.add k = ⟨ad.block, ad.off + k, none⟩ := by
  have h0 : ad.add 0 = ad := by simp [Addr.add]
  have := add_field ad 0 k hk
  rw [h0, Nat.zero_add] at this
  exact this
theorem R_at_ge {α : Type} {d : Kd α} {e n c : Nat} {w : World} {B : Nat} {ok : Nat → Prop} {A : Option Addr} {xs : List α} (h : d.R e w B ok (.slice A n c) xs) : ∀ k, AtB A k → B ≤ k ∧ k < w.heap.size := fun k hk => by
  obtain ⟨_, inner, hown, _⟩ := h
  rcases hown.2 with ⟨e, _⟩ | ⟨g, cap, cur, e, hg, hcur, _⟩
  · cases e
    exact absurd hk AtB.none
  · cases e
    simp only [AtB, Option.map_some, Option.some.injEq] at hk
    subst hk
    exact ⟨hg, blk_lt hcur⟩
theorem at_R {w : World} {B n c : Nat} {ok : Nat → Prop} {ad : Addr} {xs : List S105} (h : k105.R 105 w B ok (.slice (some ad) n c) xs) (i : Nat) (hi : i < n) :
    ∃ v1 v2, w.cell? (ad.add (i * 3)) = some (.int .u64 (rd_T105 xs i).f0) ∧ w.cell? ⟨(ad.add (i * 3)).block, (ad.add (i * 3)).off + 1, none⟩ = some v1 ∧ w.cell? ⟨(ad.add (i * 3)).block, (ad.add (i * 3)).off + 2, none⟩ = some v2 ∧
      (Kd.int .u8).R 5 w B ok v1 (rd_T105 xs i).f1 ∧ k105.R 105 w B ok v2 (rd_T105 xs i).f2 := by
  obtain ⟨cs, _, hM, hc⟩ := Kd.R_get h z105 (i : Int) (by omega) (by omega)
  simp only [Int.toNat_natCast] at hM hc
  obtain ⟨v1, v2, rfl, h1, h2⟩ := k105_openM hM
  have e : rd_T105 xs (i : Int) = xs.getD i z105 := by simp [rd_T105]
  rw [e]
  have hc : ∀ j u, ([.int .u64 (xs.getD i z105).f0, v1, v2] : List Value)[j]? = some u → w.cell? (ad.add (i * 3 + j)) = some u := hc
  exact ⟨v1, v2, hc 0 _ rfl, by rw [← add_field _ _ 1 (by omega)]; exact hc 1 _ rfl, by rw [← add_field _ _ 2 (by omega)]; exact hc 2 _ rfl, Kd.R_mono h1 (fun k hk => hk.1), Kd.R_mono h2 (fun k hk => hk.1)⟩
theorem at_three {w : World} {B c : Nat} {ok : Nat → Prop} {A : Option Addr} {x y z : S105} (h : k105.R 105 w B ok (.slice A 3 c) [x, y, z]) :
    ∃ ad A7 n7, A = some ad ∧ w.cell? ad = some (.int .u64 x.f0) ∧ w.cell? ⟨ad.block, ad.off + 3, none⟩ = some (.int .u64 y.f0) ∧ w.cell? ⟨ad.block, ad.off + 7, none⟩ = some (.slice A7 z.f1.length n7) ∧ (Kd.int .u8).R 5 w B ok (.slice A7 z.f1.length n7) z.f1 := by
  obtain ⟨ad, _, _, _, _, e, _⟩ := at_T105 (Kd.R_reads' h).2.2 0 (by omega) (by simp)
  subst e
  obtain ⟨v1, v2, h0, _⟩ := at_R h 0 (by omega)
  obtain ⟨_, _, g0, _⟩ := at_R h 1 (by omega)
  obtain ⟨u1, u2, _, k1, _, r1, _⟩ := at_R h 2 (by omega)
  have a0 : ad.add (0 * 3) = ad := by simp [Addr.add]
  have a1 : ad.add (1 * 3) = ⟨ad.block, ad.off + 3, none⟩ := add_k ad 3 (by decide)
  have a2 : ad.add (2 * 3) = ⟨ad.block, ad.off + 6, none⟩ := add_k ad 6 (by decide)
  rw [a0] at h0
  rw [a1] at g0
  rw [a2] at k1
  obtain ⟨A7, n7, rfl⟩ := Kd.R_slice r1
  exact ⟨ad, A7, n7, rfl, h0, g0, k1, r1⟩
def ParseQ (r : Option (List Tr) × Int) (w : World) (e : Ending) (w' : World) : Prop :=
  Below w.heap.size w w' ∧ ((r.1 = none ∧ e = .returned (.tuple #[.pointer none, .int .i64 r.2])) ∨
    ∃ rows p bm, r.1 = some rows ∧ e = .returned (.tuple #[.pointer (some ⟨p, 0, none⟩), .int .i64 r.2]) ∧ TableIs w' (fun k => w.heap.size ≤ k ∧ k < bm) p bm rows ∧ w.heap.size ≤ p ∧ w.heap.size ≤ bm)
theorem alook_view {M : List (Int × Rec)} {V : View} (h : view M = V) {c : Int} (hn : alook c V = none) : alook c (amap encR M) = none := by
  subst h
  unfold view at hn
  rw [alook_map] at hn ⊢
  cases e : alook c M with
  | none => rfl
  | some r => rw [e] at hn; cases hn
theorem view_snoc {M : List (Int × Rec)} {V : View} (h : view M = V) (c : Int) (r : Rec) : view (M ++ [(c, r)]) = V ++ [(c, r.seq, r.ans)] := by
  subst h
  simp [view, amap]
theorem trs_mem {v x cc oo bb : S105} (h : x ∈ v.f2) (e : x.f2 = [cc, oo, bb]) : bb.f1.length ≤ (formS (trs v)).length := by
  have hm : (cc.f0, oo.f0, bb.f1) ∈ trs v := List.mem_map.2 ⟨x, h, by simp [tr, e0, e1, e2, e]⟩
  have : ∀ l : List Tr, (cc.f0, oo.f0, bb.f1) ∈ l → bb.f1.length ≤ ((l.map rowB).flatten).length := by
    intro l
    induction l with
    | nil => intro h; cases h
    | cons p l ih =>
      intro h
      simp only [List.map_cons, List.flatten_cons, List.length_append]
      rcases List.mem_cons.1 h with rfl | h
      · simp only [rowB, List.length_append]; omega
      · have := ih h; omega
  have := this _ hm
  unfold formS
  simp only [List.length_append]
  omega
theorem right_calls (c s : Int) (w : World) : Calls Try.prog 57 #[.int .i64 c, .int .i64 s] w fun e w' => e = .returned (.bool (rightF c s)) ∧ ∃ n, w' = w.drewN n :=
  (Go.Proofs.Ytnkpleggmiamdaa.PSessionOnce.session_right.calls c s _ w (Se.right_at c s)).mono fun e w' ⟨he, n, hn⟩ => ⟨he, n, hn⟩
theorem rightF_wf {c o : Int} (h : rightF c o = true) : (Lit.int .i64 c).wf = true := by
  have := of_decide_eq_true h
  simp [Lit.wf, IntKind.min, IntKind.max, IntKind.signed, IntKind.bits]
  omega
set_option maxHeartbeats 8000000 in
set_option maxRecDepth 100000 in
theorem parse_calls (bs : List Int) (A : Option Addr) (c : Nat) (w : World) (hC : (Kd.int .u8).C w A bs.length bs) (hc : bs.length ≤ c) (hx : Byt bs) (hl : bs.length ≤ 100000) :
    Calls Try.prog 23 #[.slice A bs.length c] w (ParseQ (parseS bs) w) := by
  have HT := Aside0.mk (taketop_calls shS bs A c w hC hc hx (by omega))
  have HTL := Aside0.mk (fun v h => top_se (v := v) hx h)
  obtain ⟨⟨v, er⟩, hv⟩ : ∃ q, takeTop shS bs = q := ⟨_, rfl⟩
  have HPE := Aside0.mk (parse_err (bs := bs))
  have HPO := Aside0.mk (fun v => parse_of (bs := bs) (v := v))
  rw [hv] at HT HTL HPE HPO
  obtain ⟨res, hres⟩ : ∃ res, parseS bs = res := ⟨_, rfl⟩
  rw [hres] at HPE HPO ⊢
  have HBL := Aside0.mk hl
  clear hC hx hres hv hl
  go_enter Try.func23, Try.ntmps23
  go_wp2_with fail
  refine Calls.mono HT.out ?_
  rintro E w1 ⟨hB, u1, u2, rfl, hM⟩
  obtain ⟨_, _, e12, hR1, hR2⟩ := k105_openM hM
  obtain ⟨rfl, rfl⟩ : u1 = _ ∧ u2 = _ := by
    injection e12 with _ e12
    injection e12 with ea e12
    injection e12 with eb _
    exact ⟨ea, eb⟩
  obtain ⟨A3, c3, rfl⟩ := Kd.R_slice hR1
  obtain ⟨A4, c4, rfl⟩ := Kd.R_slice hR2
  simp only at hR2 ⊢
  have HB1 := Aside0.mk hB
  have HR2 := Aside0.mk hR2
  clear hB hM e12 hR1 hR2 HT
  by_cases he : er = 0
  · subst he
    obtain ⟨hr, hp, hw⟩ := HTL.out v rfl
    have hpo := HPO.out v rfl
    have HPO := Aside0.mk hpo
    have HWB : Aside0 (∀ x ∈ v.f2, ∃ c o b, x.f2 = [c, o, b] ∧ (0 ≤ c.f0 ∧ c.f0 < 18446744073709551616) ∧ (0 ≤ o.f0 ∧ o.f0 < 18446744073709551616) ∧ b.f1.length ≤ 100000) := ⟨fun x hx => by
      obtain ⟨c, o, b, e⟩ := hr x hx
      have hwx := wf_in hw hx
      have hle := trs_mem hx e
      rw [← put_se hr, ← hp] at hle
      exact ⟨c, o, b, e, wf_u (wf_in hwx (y := c) (by rw [e]; simp)), wf_u (wf_in hwx (y := o) (by rw [e]; simp)), Nat.le_trans hle HBL.out⟩⟩
    have hlm : v.f2.length ≤ 9223372036854775807 := (Kd.R_reads' HR2.out).2.2.2.1
    clear hp hw hr hpo HTL HPE
    obtain ⟨bv, hbv⟩ : ∃ bv, w1.heap.size = bv := ⟨_, rfl⟩
    obtain ⟨w2, hw2⟩ : ∃ w2, w1.alloc (.cells #[.int .u64 v.f0, .slice A3 v.f1.length c3, .slice A4 v.f2.length c4] 105) = w2 := ⟨_, rfl⟩
    have HBN : Aside0 (Below w1.heap.size w1 w2) := ⟨by rw [← hw2]; exact (Below.refl _ _).alloc (Nat.le_refl _) _⟩
    have K4 : Aside0 (w2.heap[bv]? = some (.cells #[.int .u64 v.f0, .slice A3 v.f1.length c3, .slice A4 v.f2.length c4] 105 (0, 0))) := ⟨by rw [← hbv, ← hw2]; exact blk_new _ _⟩
    have HRR := Aside0.mk (Kd.R_below HR2.out HBN.out)
    have HB2 : Aside0 (Below w.heap.size w w2) := ⟨HB1.out.trans (HBN.out.mono HB1.out.size)⟩
    clear HR2 HB1 HBN
    go_wp2_with fail
    refine (Se.new_calls w2).mono ?_
    rintro e w3 ⟨rfl, hw3⟩
    obtain ⟨bm, hbm⟩ : ∃ bm, w2.heap.size = bm := ⟨_, rfl⟩
    rw [hbm]
    have HB3 : Aside0 (Below w2.heap.size w2 w3) := ⟨by rw [hw3]; exact ((Below.refl _ _).alloc (Nat.le_refl _) _).alloc (by rw [World.size_alloc]; omega) _⟩
    have HT3 : Aside0 (TabIs w3 (fun k => w.heap.size ≤ k ∧ k < bm) (bm + 1) bm []) := ⟨⟨by rw [hw3, ← hbm]; have := blk_new (w2.alloc (.map #[] 0)) (.cells #[.map (some w2.heap.size)] 98); rwa [World.size_alloc] at this, by rw [hw3, ← hbm]; exact (MapIs.made w2).alloc _, fun x hx => by cases hx⟩⟩
    have HBM : Aside0 (w2.heap.size = bm) := ⟨hbm⟩
    have k2' : w3.cell? ⟨bv, 2, none⟩ = some (.slice A4 v.f2.length c4) := (blk_cell (blk_below K4.out HB3.out) 2).trans rfl
    clear hw3 hw2 hbv K4
    go_wp2_with fail
    clear k2'
    go_loopg [7, 9, 10, 11, 24] v.f2.length (fun kq v7 v9 v10 v11 v24 wr => ∃ (i : Nat) (M : List (Int × Rec)), v24 = .int .i64 i ∧ v7 = .int .i64 (lastK (-1) ((trs v).take i)) ∧ i + kq = v.f2.length ∧ Aside0 (goodF (-1) ((trs v).take i) = true) ∧ Aside0 (TabIs wr (fun k => w.heap.size ≤ k ∧ k < bm) (bm + 1) bm M) ∧ Aside0 (view M = (trs v).take i) ∧ Aside0 (Below w2.heap.size w2 wr))
    case atStart => exact ⟨0, [], rfl, rfl, by omega, ⟨rfl⟩, HT3, ⟨rfl⟩, HB3⟩
    case round =>
      clear HT3 HB3 hbm
      obtain ⟨i, M, rfl, rfl, hi, HGD, HTB, HVW, HB⟩ := hrel
      by_cases hlt : i < v.f2.length
      · have hlt' : (i : Int) < (v.f2.length : Int) := by omega
        obtain ⟨ad2, _, _, _, _, e4, _⟩ := at_T105 (Kd.R_reads' HRR.out).2.2 (i : Int) (by omega) hlt'
        subst e4
        obtain ⟨u1, u2, y0, y1, y2, r1, r2⟩ := at_R HRR.out i hlt
        rw [rd105 hlt] at y0 r1 r2
        obtain ⟨x, hx⟩ : ∃ x, v.f2[i] = x := ⟨_, rfl⟩
        obtain ⟨cc, oo, bb, hxf, hcc, hoo, hbb⟩ := HWB.out x (by rw [← hx]; exact List.getElem_mem hlt)
        rw [hx] at y0 r1 r2
        rw [hxf] at r2
        obtain ⟨X1, x1, rfl⟩ := Kd.R_slice r1
        obtain ⟨X2, x2, rfl⟩ := Kd.R_slice r2
        have r2 : k105.R 105 w2 w.heap.size (fun k => w.heap.size ≤ k) (.slice X2 3 x2) [cc, oo, bb] := r2
        have y2 : w2.cell? ⟨(ad2.add (i * 3)).block, (ad2.add (i * 3)).off + 2, none⟩ = some (.slice X2 3 x2) := y2
        obtain ⟨adx, A7, n7, rfl, q0, q3, q7, rb⟩ := at_three r2
        have HBAD := Aside0.mk (goodF_bad hlt hx hxf)
        have HSTEP := Aside0.mk (goodF_step hlt hx hxf HGD.out)
        have HTK := Aside0.mk (trs_take hlt hx hxf)
        have HRM := Aside0.mk (rightF_min hcc.1 hoo.1)
        have HRISE := Aside0.mk (alook_rise (c := cc.f0) HGD.out)
        have HRC : Aside0 (RecOk w2 (fun k => w.heap.size ≤ k ∧ k < bm) ⟨oo.f0, A7, n7, bb.f1⟩) := ⟨⟨⟨(Kd.R_reads' rb).2.2, (Kd.R_reads' rb).2.1, by show bb.f1.length ≤ _; omega⟩, fun k hk => ⟨⟨(R_at_ge rb k hk).1, by have := (R_at_ge rb k hk).2; have := HBM.out; omega⟩, (R_at_ge rb k hk).2⟩⟩⟩
        obtain ⟨b9, hb9⟩ : ∃ b9, wr.heap.size = b9 := ⟨_, rfl⟩
        obtain ⟨w4, hw4⟩ : ∃ w4, wr.alloc (.cells #[.int .u64 x.f0, .slice X1 x.f1.length x1, .slice (some adx) 3 x2] 105) = w4 := ⟨_, rfl⟩
        have HB4 : Aside0 (Below wr.heap.size wr w4) := ⟨by rw [← hw4]; exact (Below.refl _ _).alloc (Nat.le_refl _) _⟩
        have HB24 : Aside0 (Below w2.heap.size w2 w4) := ⟨HB.out.trans (HB4.out.mono HB.out.size)⟩
        have K9 : Aside0 (w4.heap[b9]? = some (.cells #[.int .u64 x.f0, .slice X1 x.f1.length x1, .slice (some adx) 3 x2] 105 (0, 0))) := ⟨by rw [← hb9, ← hw4]; exact blk_new wr _⟩
        replace y0 := (HB.out.cell (cell_lt y0)).trans y0
        replace y1 := (HB.out.cell (cell_lt y1)).trans y1
        replace y2 := (HB.out.cell (cell_lt y2)).trans y2
        have b9c2 : w4.cell? ⟨b9, 2, none⟩ = some (.slice (some adx) 3 x2) := (blk_cell K9.out 2).trans rfl
        have s0 := (HB24.out.cell (cell_lt q0)).trans q0
        have s3 := (HB24.out.cell (cell_lt q3)).trans q3
        have HQ7 : Aside0 (w2.cell? ⟨adx.block, adx.off + 7, none⟩ = some (.slice A7 bb.f1.length n7)) := ⟨q7⟩
        have HT4 := Aside0.mk (HTB.out.below HB4.out)
        clear r1 r2 rb q0 q3 q7 hx hxf HTB
        go_wp2_with fail
        go_big_quiet (fail)
        go_wp2_with fail
        refine (right_calls _ _ _).mono ?_
        rintro e w5 ⟨rfl, nd, hw5⟩
        rw [HRM.out]
        have HB5 : Aside0 (Below w4.heap.size w4 w5) := ⟨by rw [hw5]; exact pw_below_drewN (pw_below_drewN (Below.refl _ _) _) _⟩
        have HB25 : Aside0 (Below w2.heap.size w2 w5) := ⟨HB24.out.trans (HB5.out.mono HB24.out.size)⟩
        have HT5 := Aside0.mk (HT4.out.below HB5.out)
        have HBW : Aside0 (Below w.heap.size w w5) := ⟨HB2.out.trans (HB25.out.mono HB2.out.size)⟩
        have K95 := Aside0.mk (blk_below K9.out HB5.out)
        clear b9c2 s0 s3 HB4 hw4 hw5 y0 y1 y2 hb9 HRM HT4 HB24 HB5 K9
        cases hrb : rightF cc.f0 oo.f0 with
        | false =>
          have hbad := HBAD.out (by rw [hrb]; rfl)
          clear hrb
          go_wp2_with fail
          go_ret2
          rw [HPO.out, if_neg (by rw [hbad]; decide)]
          exact ⟨HBW.out, .inl ⟨rfl, rfl⟩⟩
        | true =>
          have hrt := of_decide_eq_true hrb
          have hmc : min cc.f0 1099511627776 = cc.f0 := by omega
          have hmo : min oo.f0 1099511627776 = oo.f0 := by omega
          rw [hmc, hmo]
          by_cases hl : lastK (-1) ((trs v).take i) < cc.f0
          · have HG2 := Aside0.mk (HSTEP.out (by rw [hrb, decide_eq_true hl]; rfl))
            have hal := alook_view HVW.out (HRISE.out hl)
            obtain ⟨st, w6, hme, HF6, hz6, hes⟩ := run_mapEntry Try.underlying96 Try.underlying3 HT5.out.map.drew cc.f0 (rightF_wf hrb) hal (Se.zeroR w5.drew)
            obtain ⟨w7, hes7, HM7, HF7, hz7⟩ := hes w6 (encR ⟨oo.f0, A7, n7, bb.f1⟩) rfl
            rw [aput_map] at HM7
            have han : aput cc.f0 (⟨oo.f0, A7, n7, bb.f1⟩ : Rec) M = M ++ [(cc.f0, ⟨oo.f0, A7, n7, bb.f1⟩)] := aput_new _ (by
              have := hal
              rw [alook_map] at this
              cases e : alook cc.f0 M with
              | none => rfl
              | some r => rw [e] at this; cases this)
            rw [han] at HM7
            have HF57 := Aside0.mk (HF6.trans HF7)
            have HF56 := Aside0.mk HF6
            have HFD : Aside0 (Below w5.heap.size w5 w5.drew) := ⟨(Below.refl _ _).drew⟩
            have hbl : b9 ≠ bm ∧ b9 < w5.heap.size := by
              refine ⟨fun e => ?_, blk_lt K95.out⟩
              obtain ⟨es, ck, hb, _⟩ := HT5.out.map.out
              rw [← e, K95.out] at hb
              cases hb
            have HBN := Aside0.mk hbl
            have HSS : Aside0 (∀ W, Below w5.heap.size w5 W → W.cell? ⟨bm + 1, 0, none⟩ = some (.map (some bm)) ∧ W.cell? ⟨b9, 2, none⟩ = some (.slice (some adx) 3 x2) ∧ W.cell? ⟨adx.block, adx.off + 7, none⟩ = some (.slice A7 bb.f1.length n7)) := ⟨fun W hW => ⟨(blk_cell (blk_below HT5.out.blk hW) 0).trans rfl, (blk_cell (blk_below K95.out hW) 2).trans rfl, ((HB25.out.trans (hW.mono HB25.out.size)).cell (cell_lt HQ7.out)).trans HQ7.out⟩⟩
            have HSF : Aside0 (∀ W, Fr1 w5.drew W bm → W.cell? ⟨bm + 1, 0, none⟩ = some (.map (some bm)) ∧ W.cell? ⟨b9, 2, none⟩ = some (.slice (some adx) 3 x2) ∧ W.cell? ⟨adx.block, adx.off + 7, none⟩ = some (.slice A7 bb.f1.length n7)) := ⟨fun W hW => by
              obtain ⟨a1, a2, a3⟩ := HSS.out _ HFD.out
              refine ⟨hW.cell (by show bm + 1 ≠ bm; omega) a1, hW.cell (fun e => HBN.out.1 e) a2, hW.cell (fun e => ?_) a3⟩
              have h1 := cell_lt HQ7.out
              have h2 : adx.block = bm := e
              have h3 : adx.block < w2.heap.size := h1
              have := HBM.out
              omega⟩
            have HS6 := Aside0.mk (HSF.out w6 HF56.out)
            have HS7 := Aside0.mk (HSF.out w7 HF57.out)
            have HC := HSS
            have HD := HFD
            have HTB7 : Aside0 (TabIs w7 (fun k => w.heap.size ≤ k ∧ k < bm) (bm + 1) bm (M ++ [(cc.f0, ⟨oo.f0, A7, n7, bb.f1⟩)])) := ⟨by
              have hfs : FrS (fun k => k = bm) w5 w7 := ⟨HF57.out.os.trans HFD.out.os, HF57.out.tape.trans HFD.out.tape, HF57.out.output.trans HFD.out.output, HF57.out.size, fun k hk hne => (HF57.out.block k hk hne).trans (HFD.out.block k hk)⟩
              have hfs2 : FrS (fun k => k = bm) w2 w7 := ⟨hfs.os.trans HB25.out.os, hfs.tape.trans HB25.out.tape, hfs.output.trans HB25.out.output, Nat.le_trans HB25.out.size hfs.size, fun k hk hne => (hfs.block k (Nat.lt_of_lt_of_le hk HB25.out.size) hne).trans (HB25.out.block k hk)⟩
              refine ⟨hfs.blk HT5.out.blk (by omega), HM7, fun x hx => ?_⟩
              rcases List.mem_append.1 hx with hx | hx
              · exact (HT5.out.recs x hx).frS hfs (fun k hk _ e => by have := hk.2; omega) (fun k hk _ => hk)
              · rw [List.mem_singleton.1 hx]
                exact HRC.out.frS hfs2 (fun k hk _ e => by have := hk.2; omega) (fun k hk _ => hk)⟩
            have HB7 : Aside0 (Below w2.heap.size w2 w7) := ⟨(HB25.out.trans (HFD.out.mono HB25.out.size)).trans (HF57.out.to_below (by have := HBM.out; omega) (by have := HB25.out.size; exact this))⟩
            have HV7 : Aside0 (view (M ++ [(cc.f0, ⟨oo.f0, A7, n7, bb.f1⟩)]) = (trs v).take (i + 1)) := ⟨by rw [view_snoc HVW.out, HTK.out]⟩
            have HLK : Aside0 (lastK (-1) ((trs v).take (i + 1)) = cc.f0) := ⟨by rw [HTK.out, lastK_snoc]⟩
            have hnl : ¬ (cc.f0 ≤ lastK (-1) ((trs v).take i)) := by omega
            simp only [encR] at hme hes7
            clear hes HM7 HF6 HF7 hz6 hz7 hal han hl hrb hrt HBW HGD HRISE HTK HSTEP HBAD hbl HSS HSF HBN HRC
            generalize lastK (-1) ((trs v).take i) = lk at hnl ⊢
            go_upto_region 12 with fail
            refine start_ (n := 17) (S := fun w' => w'.cell? ⟨bm + 1, 0, none⟩ = some (.map (some bm)) ∧ w'.cell? ⟨b9, 2, none⟩ = some (.slice (some adx) 3 x2) ∧ w'.cell? ⟨adx.block, adx.off + 7, none⟩ = some (.slice A7 bb.f1.length n7)) (ds := []) #[false, false, false, false, false, false, false, false, false, false, false, false, false, false, false, false, false] (by kernel_rfl) rfl rfl (HC.out _ HD.out) (fun hHeld => ?_)
            refine pure_ (i := 0) (N := some 51) (v := ?_) (a' := ?_) #[true, false, false, false, false, false, false, false, false, false, false, false, false, false, false, false, false] rfl rfl (by kernel_rfl) (fun _ _ _ h => h) (Or.inl ⟨by rfl, ?_⟩) ?_ ?_
            rotate_left
            · intro w'
              go_simp
              with_reducible rfl
            rotate_left
            · simp only [Act.put, List.setIfInBounds_toArray, List.set_cons_zero, List.set_cons_succ, i64_w, i32_w]
              rfl
            refine pure_ (i := 1) (N := some 52) (v := ?_) (a' := ?_) #[true, true, false, false, false, false, false, false, false, false, false, false, false, false, false, false, false] rfl rfl (by kernel_rfl) (fun _ _ _ h => h) (Or.inl ⟨by rfl, ?_⟩) ?_ ?_
            rotate_left
            · intro w'
              go_simp
              with_reducible rfl
            rotate_left
            · simp only [Act.put, List.setIfInBounds_toArray, List.set_cons_zero, List.set_cons_succ, i64_w, i32_w]
              rfl
            refine pure_ (i := 2) (N := some 53) (v := ?_) (a' := ?_) #[true, true, true, false, false, false, false, false, false, false, false, false, false, false, false, false, false] rfl rfl (by kernel_rfl) (fun _ _ _ h => h) (Or.inl ⟨by rfl, ?_⟩) ?_ ?_
            rotate_left
            · intro w'
              go_simp
              with_reducible rfl
            rotate_left
            · simp only [Act.put, List.setIfInBounds_toArray, List.set_cons_zero, List.set_cons_succ, i64_w, i32_w]
              rfl
            refine pure_ (i := 4) (N := some 55) (v := ?_) (a' := ?_) #[true, true, true, false, true, false, false, false, false, false, false, false, false, false, false, false, false] rfl rfl (by kernel_rfl) (fun _ _ _ h => h) (Or.inl ⟨by rfl, ?_⟩) ?_ ?_
            rotate_left
            · intro w'
              go_simp
              with_reducible rfl
            rotate_left
            · simp only [Act.put, List.setIfInBounds_toArray, List.set_cons_zero, List.set_cons_succ, i64_w, i32_w]
              rfl
            refine pure_ (i := 5) (N := some 56) (v := ?_) (a' := ?_) #[true, true, true, false, true, true, false, false, false, false, false, false, false, false, false, false, false] rfl rfl (by kernel_rfl) (fun _ _ _ h => h) (Or.inl ⟨by rfl, ?_⟩) ?_ ?_
            rotate_left
            · intro w'
              go_simp
              with_reducible rfl
            rotate_left
            · simp only [Act.put, List.setIfInBounds_toArray, List.set_cons_zero, List.set_cons_succ, i64_w, i32_w]
              rfl
            refine pure_ (i := 6) (N := some 57) (v := ?_) (a' := ?_) #[true, true, true, false, true, true, true, false, false, false, false, false, false, false, false, false, false] rfl rfl (by kernel_rfl) (fun _ _ _ h => h) (Or.inl ⟨by rfl, ?_⟩) ?_ ?_
            rotate_left
            · intro w'
              go_simp
              with_reducible rfl
            rotate_left
            · simp only [Act.put, List.setIfInBounds_toArray, List.set_cons_zero, List.set_cons_succ, i64_w, i32_w]
              rfl
            refine pure_ (i := 12) (N := some 63) (v := ?_) (a' := ?_) #[true, true, true, false, true, true, true, false, false, false, false, false, true, false, false, false, false] rfl rfl (by kernel_rfl) (fun _ _ _ h => h) (Or.inl ⟨by rfl, ?_⟩) ?_ ?_
            rotate_left
            · intro w'
              go_simp
              with_reducible rfl
            rotate_left
            · simp only [Act.put, List.setIfInBounds_toArray, List.set_cons_zero, List.set_cons_succ, i64_w, i32_w]
              rfl
            refine take_ (i := 3) (N := some 54) (v := ?_) (a' := ?_) #[true, true, true, true, true, true, true, false, false, false, false, false, true, false, false, false, false] rfl rfl (by kernel_rfl) (fun _ _ _ h => h) (Or.inl ⟨by rfl, ?_⟩) hHeld ?_ ?_
            rotate_left
            · rintro w' ⟨s0, s1, s2⟩
              go_simp
              with_reducible rfl
            rotate_left
            · simp only [Act.put, List.setIfInBounds_toArray, List.set_cons_zero, List.set_cons_succ, i64_w, i32_w]
              rfl
            refine take_ (i := 7) (N := some 58) (v := ?_) (a' := ?_) #[true, true, true, true, true, true, true, true, false, false, false, false, true, false, false, false, false] rfl rfl (by kernel_rfl) (fun _ _ _ h => h) (Or.inl ⟨by rfl, ?_⟩) hHeld ?_ ?_
            rotate_left
            · rintro w' ⟨s0, s1, s2⟩
              go_simp
              with_reducible rfl
            rotate_left
            · simp only [Act.put, List.setIfInBounds_toArray, List.set_cons_zero, List.set_cons_succ, i64_w, i32_w]
              rfl
            refine pure_ (i := 8) (N := some 59) (v := ?_) (a' := ?_) #[true, true, true, true, true, true, true, true, true, false, false, false, true, false, false, false, false] rfl rfl (by kernel_rfl) (fun _ _ _ h => h) (Or.inl ⟨by rfl, ?_⟩) ?_ ?_
            rotate_left
            · intro w'
              go_simp
              with_reducible rfl
            rotate_left
            · simp only [Act.put, List.setIfInBounds_toArray, List.set_cons_zero, List.set_cons_succ, i64_w, i32_w]
              rfl
            refine pure_ (i := 9) (N := some 60) (v := ?_) (a' := ?_) #[true, true, true, true, true, true, true, true, true, true, false, false, true, false, false, false, false] rfl rfl (by kernel_rfl) (fun _ _ _ h => h) (Or.inl ⟨by rfl, ?_⟩) ?_ ?_
            rotate_left
            · intro w'
              go_simp
              with_reducible rfl
            rotate_left
            · simp only [Act.put, List.setIfInBounds_toArray, List.set_cons_zero, List.set_cons_succ, i64_w, i32_w]
              rfl
            refine take_ (i := 10) (N := some 61) (v := ?_) (a' := ?_) #[true, true, true, true, true, true, true, true, true, true, true, false, true, false, false, false, false] rfl rfl (by kernel_rfl) (fun _ _ _ h => h) (Or.inl ⟨by rfl, ?_⟩) hHeld ?_ ?_
            rotate_left
            · rintro w' ⟨s0, s1, s2⟩
              go_simp
              with_reducible rfl
            rotate_left
            · simp only [Act.put, List.setIfInBounds_toArray, List.set_cons_zero, List.set_cons_succ, i64_w, i32_w]
              rfl
            refine pure_ (i := 11) (N := some 62) (v := ?_) (a' := ?_) #[true, true, true, true, true, true, true, true, true, true, true, true, true, false, false, false, false] rfl rfl (by kernel_rfl) (fun _ _ _ h => h) (Or.inl ⟨by rfl, ?_⟩) ?_ ?_
            rotate_left
            · intro w'
              go_simp
              with_reducible rfl
            rotate_left
            · simp only [Act.put, List.setIfInBounds_toArray, List.set_cons_zero, List.set_cons_succ, i64_w, i32_w]
              rfl
            refine one_ (i := 13) (N := some 64) #[true, true, true, true, true, true, true, true, true, true, true, true, true, true, false, false, false] rfl rfl (by kernel_rfl) (by decide) (fun K hK => ?_)
            refine value_ (w1 := ?_) (v := ?_) (by rfl) rfl ?_ ?_
            rotate_left 2
            · go_simp
              constructor
              · rfl
              · rfl
            refine hK.out _ _ (HS6.out) (fun hHeld => ?_)
            clear hK K
            refine norm_ (a' := ?_) ?_ ?_
            rotate_left
            · show Act.put _ (some 64) _ = _
              simp only [Act.put, List.setIfInBounds_toArray, List.set_cons_zero, List.set_cons_succ, i64_w, i32_w]
              rfl
            refine pure_ (i := 14) (N := some 65) (v := ?_) (a' := ?_) #[true, true, true, true, true, true, true, true, true, true, true, true, true, true, true, false, false] rfl rfl (by kernel_rfl) (fun _ _ _ h => h) (Or.inl ⟨by rfl, ?_⟩) ?_ ?_
            rotate_left
            · intro w'
              go_simp
              with_reducible rfl
            rotate_left
            · simp only [Act.put, List.setIfInBounds_toArray, List.set_cons_zero, List.set_cons_succ, i64_w, i32_w]
              rfl
            refine one_ (i := 15) (N := none) #[true, true, true, true, true, true, true, true, true, true, true, true, true, true, true, true, false] rfl rfl (by kernel_rfl) (by decide) (fun K hK => ?_)
            refine skip_ (w1 := ?_) (by rfl) rfl ?_ ?_
            rotate_left
            · go_simp
              rfl
            refine hK.out _ _ (HS7.out) (fun hHeld => ?_)
            clear hK K
            refine pure_ (i := 16) (N := some 7) (v := ?_) (a' := ?_) #[true, true, true, true, true, true, true, true, true, true, true, true, true, true, true, true, true] rfl rfl (by kernel_rfl) (fun _ _ _ h => h) (Or.inl ⟨by rfl, ?_⟩) ?_ ?_
            rotate_left
            · intro w'
              go_simp
              with_reducible rfl
            rotate_left
            · simp only [Act.put, List.setIfInBounds_toArray, List.set_cons_zero, List.set_cons_succ, i64_w, i32_w]
              rfl
            refine done_ (by kernel_rfl) ?_
            clear hHeld HC HD HS6 HS7 hme hes7
            go_wp2_with fail
            go_roundg (v.f2.length - (i + 1))
            case measure => omega
            case rel => exact ⟨i + 1, _, by go_num, by rw [HLK.out], by omega, HG2, HTB7, HV7, HB7⟩
          · have hbad := HBAD.out (by rw [hrb, decide_eq_false hl]; rfl)
            have hnl : cc.f0 ≤ lastK (-1) ((trs v).take i) := by omega
            clear hrb hrt hl
            go_wp2_with fail
            go_ret2
            rw [HPO.out, if_neg (by rw [hbad]; decide)]
            exact ⟨HBW.out, .inl ⟨rfl, rfl⟩⟩
      · have hge : ¬ (i : Int) < (v.f2.length : Int) := by omega
        have e : (trs v).take i = trs v := List.take_of_length_le (by simp [trs]; omega)
        rw [e] at HGD HVW
        rw [e]
        clear e hlt
        go_wp2_with fail
        go_ret2
        rw [HPO.out, if_pos HGD.out]
        exact ⟨HB2.out.trans (HB.out.mono HB2.out.size), .inr ⟨_, bm + 1, bm, rfl, rfl, ⟨M, HVW.out, HTB.out⟩, by have := HB2.out.size; have := HBM.out; omega, by have := HB2.out.size; have := HBM.out; omega⟩⟩
  · have hre : res = (none, er) := HPE.out he
    have HBN : Aside0 (Below w1.heap.size w1 (w1.alloc (.cells #[.int .u64 v.f0, .slice A3 v.f1.length c3, .slice A4 v.f2.length c4] 105))) := ⟨(Below.refl _ _).alloc (Nat.le_refl _) _⟩
    go_wp2_with fail
    go_ret2
    rw [hre]
    exact ⟨HB1.out.trans (HBN.out.mono HB1.out.size), .inl ⟨rfl, rfl⟩⟩
end Go.Proofs.Ytnkpleggmiamdaa.Sp
