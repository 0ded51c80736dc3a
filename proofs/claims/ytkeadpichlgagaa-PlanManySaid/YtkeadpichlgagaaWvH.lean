/- wave: Order, Right, Levels, walked. -/
import Derived.Test.YtkeadpichlgagaaWvG
import Derived.Test.YtkeadpichlgagaaWvR
namespace Go.Proofs.Ytkeadpichlgagaa.Wv
open Go.RowKit Go.Maps Go.Proofs.YtkeadpichlgagaaW.PrintWords Go.Proofs.YtkeadpichlgagaaW.PrintLast Go.Proofs.YtkeadpichlgagaaW.PrintMore
open Go.Proofs.Ytkeadpichlgagaa.PWaveReady Go.Proofs.Ytkeadpichlgagaa.Mp
set_option linter.unusedVariables false
set_option linter.unusedSimpArgs false
set_option linter.unnecessarySimpa false

/-- Lists of no great length. -/
structure Gsz (G : Gr) : Prop where
  n : G.length ≤ 10000
  rows : ∀ y : Nat, y < G.length → (row G (y : Int)).length ≤ 1000000
abbrev GC (w : World) (A : Option Addr) (G : Gr) : Prop := Kd.C (Kd.slice 3 (Kd.int .i64)) w A G.length G
abbrev IR (w : World) (B : Nat) (v : Value) (xs : List Int) : Prop := (Kd.int .i64).R 3 w B (fun k => B ≤ k) v xs

set_option maxHeartbeats 1000000 in
set_option maxRecDepth 100000 in
theorem worder_calls (A : Option Addr) (c : Nat) (G : Gr) (w : World) (hr : GC w A G) (hc : G.length ≤ c) (hz : Gsz G) :
    Calls Try.prog 18 #[.slice A G.length c] w fun e w' => ∃ v, e = .returned (.tuple #[v, .int .i64 (ordR G).2]) ∧ IR w' w.heap.size v (ordR G).1 ∧ Below w.heap.size w w' := by
  obtain ⟨kl, hkl⟩ := (lists_ev G (by have := hz.n; omega) (fun y hy => by have := hz.rows y hy; omega)).rounds
  have HR := Aside0.mk hr
  have HZ := Aside0.mk hz
  have HL := Aside0.mk hkl
  clear hr hz hkl
  go_enter Try.func18, Try.ntmps18
  go_wp2_with fail
  refine (wave_lists.calls kl A c G _ w HR.out hc HL.out).mono ?_
  rintro e w1 ⟨rfl, hd⟩
  obtain ⟨nd, hd⟩ := hd.out
  have HB : Aside0 (Below w.heap.size w w1) := ⟨by rw [hd]; exact pw_below_drewN (Below.refl _ _) _⟩
  clear hd HL
  by_cases h0 : listsE G = 0
  · have HOK := Aside0.mk (ok_of h0)
    have HRC := Aside0.mk (Kd.C_below HR.out HB.out)
    have HY := Aside0.mk (young_ev HOK.out (by have := HZ.out.n; omega) (fun y hy => by have := HZ.out.rows y hy; omega))
    have HO : Aside0 (ordR G = if (ordA G).length < G.length then ([], 111) else (ordA G, 0)) := ⟨by
      unfold ordR ordE
      rw [if_neg (show ¬ listsE G ≠ 0 by omega)]
      by_cases h : (ordA G).length < G.length
      · simp [h]
      · simp [h]⟩
    have hln := ordA_len G
    have hzn := HZ.out.n
    rw [h0]
    clear h0
    go_wp2_with fail
    refine (order_calls A c G w1 HRC.out hc HZ.out.n HZ.out.rows HOK.out HY.out).mono ?_
    rintro e w2 ⟨v, rfl, hv, hb⟩
    have HB2 := Aside0.mk (HB.out.trans (hb.mono HB.out.size))
    have HV := Aside0.mk hv
    clear hb hv
    obtain ⟨Av, cv, rfl⟩ := Kd.R_slice HV.out
    have HVL := Aside0.mk (Kd.R_reads' HV.out)
    by_cases hlt : (ordA G).length < G.length
    · have hlt' : decide ((ordA G).length < G.length) = true := decide_eq_true hlt
      rw [if_pos hlt] at HO
      clear hlt
      go_wp2_with fail
      go_ret2
      rw [HO.out]
      exact ⟨_, rfl, Kd.R_nil _ _ _ _ _, HB2.out⟩
    · have hlt' : decide ((ordA G).length < G.length) = false := decide_eq_false hlt
      rw [if_neg hlt] at HO
      clear hlt
      go_wp2_with fail
      go_ret2
      rw [HO.out]
      exact ⟨_, rfl, Kd.R_mono (Kd.R_lower HV.out HB.out.size) (fun k hk => Nat.le_trans HB.out.size hk), HB2.out⟩
  · have hb : (listsE G == 0) = false := by simpa using h0
    have hb' : (listsE G != 0) = true := by simpa using h0
    have HO : Aside0 (ordR G = ([], listsE G)) := ⟨by unfold ordR ordE; simp [h0]⟩
    clear h0
    generalize listsE G = er at hb hb' HO ⊢
    go_wp2_with fail
    go_ret2
    rw [HO.out]
    exact ⟨_, rfl, Kd.R_nil _ _ _ _ _, HB.out⟩
theorem ordR_snd (G : Gr) : (ordR G).2 = ordE G := by
  unfold ordR
  by_cases h : ordE G = 0
  · rw [if_pos h, h]
  · rw [if_neg h]
set_option maxRecDepth 100000 in
theorem right_calls (A : Option Addr) (c : Nat) (G : Gr) (w : World) (hr : GC w A G) (hc : G.length ≤ c) (hz : Gsz G) :
    Calls Try.prog 22 #[.slice A G.length c] w fun e w' => e = .returned (.int .i64 (ordE G)) ∧ Below w.heap.size w w' := by
  have HR := Aside0.mk hr
  clear hr
  go_enter Try.func22, Try.ntmps22
  go_wp2_with fail
  refine (worder_calls A c G w HR.out hc hz).mono ?_
  rintro e w1 ⟨v, rfl, hv, hb⟩
  rw [ordR_snd]
  clear hv
  have HB := Aside0.mk hb
  clear hb
  go_wp2_with fail
  go_ret
  exact ⟨rfl, HB.out⟩

def levR (G : Gr) : List Int := if ordE G = 0 then levA G else []
/-- A node's level as it is built up. -/
def bF (lv : List Int) (b : Int) (l : List Int) : Int := l.foldl (fun b x => if lv.getD x.toNat 0 + 1 > b then lv.getD x.toNat 0 + 1 else b) b
theorem bF_snoc (lv : List Int) (b : Int) (l : List Int) (x : Int) : bF lv b (l ++ [x]) = if lv.getD x.toNat 0 + 1 > bF lv b l then lv.getD x.toNat 0 + 1 else bF lv b l := by
  unfold bF; rw [List.foldl_append]; rfl
theorem bF_bd {lv : List Int} {m : Int} (hlv : ∀ k : Nat, 0 ≤ lv.getD k 0 ∧ lv.getD k 0 ≤ m) {b : Int} (h0 : 0 ≤ b) (h1 : b ≤ m) (l : List Int) : 0 ≤ bF lv b l ∧ bF lv b l ≤ m + 1 := by
  unfold bF
  have a := fold_ge (f := fun x => lv.getD x.toNat 0) (l := l) (b := b)
  have c := fold_le (f := fun x => lv.getD x.toNat 0) (m := m + 1) (l := l) (b := b) (by omega) (fun x _ => by have := hlv x.toNat; omega)
  exact ⟨Int.le_trans h0 a, c⟩
set_option maxHeartbeats 2000000 in
set_option maxRecDepth 100000 in
theorem levels_calls (A : Option Addr) (c : Nat) (G : Gr) (w : World) (hr : GC w A G) (hc : G.length ≤ c) (hz : Gsz G) :
    Calls Try.prog 19 #[.slice A G.length c] w fun e w' => ∃ v, e = .returned (.tuple #[v, .int .i64 (ordE G)]) ∧ IR w' w.heap.size v (levR G) ∧ Below w.heap.size w w' := by
  have HR := Aside0.mk hr
  have HZ := Aside0.mk hz
  clear hr hz
  go_enter Try.func19, Try.ntmps19
  go_wp2_with fail
  refine (worder_calls A c G w HR.out hc HZ.out).mono ?_
  rintro e w1 ⟨v, rfl, hv, hb⟩
  rw [ordR_snd]
  have HB := Aside0.mk hb
  by_cases h0 : ordE G = 0
  · have HRT := Aside0.mk (rt_of h0)
    have e1 : (ordR G).1 = ordA G := by unfold ordR; rw [if_pos h0]
    rw [e1] at hv
    have HV := Aside0.mk hv
    have H0 := Aside0.mk h0
    rw [h0]
    clear hb hv e1 h0
    obtain ⟨Av, cv, rfl⟩ := Kd.R_slice HV.out
    have hzn := HZ.out.n
    obtain ⟨N, hN⟩ : ∃ N, G.length = N := ⟨_, rfl⟩
    have HNN := Aside0.mk hN
    rw [hN] at hzn hc ⊢
    clear hN
    go_wp2_with ((with_reducible refine gate_dst (N := 21) rfl ?_); refine Kd.R_make (Kd.int .i64) w1.heap.size 3 rfl (N := 21) rfl 25 _ _ rfl (N : Int) rfl rfl Try.underlying25 (.int .i64 0) 8 info3 rfl (by decide) (by decide) 0 (ok := fun k => w1.heap.size ≤ k) (okp := fun _ => False) rfl (fun _ hk => hk.elim) (Nat.le_refl _) (by omega) (by omega) (Below.refl _ _) (Nat.le_refl _) ?_; intro v2 w2 ho hb hg hnew; have HO2 := Aside0.mk ho; have HB2 := Aside0.mk hb; clear ho hb hg hnew)
    obtain ⟨M, hM⟩ : ∃ M, (ordA G).length = M := ⟨_, rfl⟩
    have HMM := Aside0.mk hM
    have HMN : Aside0 (M = N) := ⟨by rw [← hM, HRT.out.all, HNN.out]⟩
    rw [hM] at HV ⊢
    clear hM
    have hMle : M ≤ N := by have := HMN.out; omega
    have HO3 : Aside0 ((Kd.int .i64).R 3 w2 w1.heap.size (fun k => w1.heap.size ≤ k) v2 (List.replicate N 0)) := ⟨by have := HO2.out; rwa [Int.toNat_natCast] at this⟩
    clear HO2
    have HVO : Aside0 (∀ k, (Value.slice Av M cv).ownBlock = some k → k < w1.heap.size) := ⟨fun k hk => Kd.R_lt HV.out k hk⟩
    go_wp2_with fail
    go_loopg [24] M (fun kq v24 wr => ∃ (i : Nat) (lv : List Int), v24 = .int .i64 i ∧ i + kq = M ∧ Aside0 (lv.length = N) ∧ Aside0 (∀ k : Nat, 0 ≤ lv.getD k 0 ∧ lv.getD k 0 ≤ (i : Int)) ∧ Aside0 (levL G ((ordA G).drop i) lv = levA G) ∧ Aside0 ((Kd.int .i64).R 3 wr w1.heap.size (fun k => w1.heap.size ≤ k) v2 lv) ∧ Aside0 (Below w1.heap.size w1 wr))
    case atStart => exact ⟨0, _, rfl, by omega, ⟨List.length_replicate⟩, ⟨fun k => by rw [List.getD_eq_getElem?_getD, List.getElem?_replicate]; split <;> simp⟩, ⟨by rw [List.drop_zero]; unfold levA; rw [HNN.out]⟩, HO3, HB2⟩
    case round =>
      clear HO3 HB2
      obtain ⟨i, lv, rfl, hi, HLL, HBD, HLE, HLV, HBL⟩ := hrel
      by_cases hlt : i < M
      · have hlt' : (i : Int) < (M : Int) := by omega
        have hia : i < (ordA G).length := by rw [HMM.out]; exact hlt
        obtain ⟨adv, eav, x0⟩ := Kd.at_int (Kd.R_reads' (Kd.R_below HV.out HBL.out)).2.2 i (by omega) (by rw [HMM.out]; exact hlt')
        subst eav
        simp only [Int.toNat_natCast] at x0
        have hin := (ordA_st G).inn _ (List.getElem_mem hia)
        obtain ⟨n, hn⟩ : ∃ n : Nat, (ordA G)[i] = (n : Int) := ⟨((ordA G)[i]).toNat, by omega⟩
        have er : rd (ordA G) (i : Int) = (n : Int) := by rw [← hn]; simp [rd, hia]
        rw [er] at x0
        rw [hn] at hin
        have hnN : n < N := by have := HNN.out; omega
        have HDR : Aside0 ((ordA G).drop i = (n : Int) :: (ordA G).drop (i + 1)) := ⟨by rw [List.drop_eq_getElem_cons hia, hn]⟩
        have hnN' : (n : Int) < (N : Int) := by omega
        have HRW := Aside0.mk (Kd.C_below HR.out HB.out)
        obtain ⟨adr, A1, c1, ear, y0, hcap, hC1⟩ := at_L1 HRW.out n (by omega) (by rw [HNN.out]; exact hnN')
        subst ear
        rw [rd_row] at y0 hcap hC1
        simp only [Int.toNat_natCast] at y0
        have HC1 := Aside0.mk hC1
        have y1 := (HBL.out.cell (cell_lt y0)).trans y0
        have HRN := HZ.out.rows n (by rw [HNN.out]; exact hnN)
        have HEL : Aside0 (∀ e ∈ row G (n : Int), 0 ≤ e ∧ e < (N : Int) ∧ e ≠ (n : Int)) := ⟨fun e he => by have := HRT.out.ok.at' n (by omega) (by rw [HNN.out]; omega) e he; rw [HNN.out] at this; exact this⟩
        obtain ⟨rl, hrl⟩ : ∃ rl, row G (n : Int) = rl := ⟨_, rfl⟩
        have HRL := Aside0.mk hrl
        rw [hrl] at y0 y1 hcap HC1 HRN HEL
        have HBN := Aside0.mk (HBD.out n)
        clear hin hn er hC1 hrl hia
        obtain ⟨gb, cb, ev2, _, _, _⟩ := Kd.R_form HLV.out (by rw [HLL.out]; omega)
        rw [HLL.out] at ev2
        subst ev2
        go_wp2_with fail
        go_loopg [33] rl.length (fun kq v33 wr => ∃ (j : Nat), v33 = .int .i64 j ∧ j + kq = rl.length ∧ Aside0 ((Kd.int .i64).R 3 wr w1.heap.size (fun k => w1.heap.size ≤ k) (.slice (some ⟨gb, 0, none⟩) N cb) (lv.set n (bF lv (lv.getD n 0) (rl.take j)))) ∧ Aside0 (Below w1.heap.size w1 wr))
        case atStart => exact ⟨0, rfl, by omega, ⟨by
          have e : lv.set n (bF lv (lv.getD n 0) (rl.take 0)) = lv := by
            rw [List.take_zero]
            show lv.set n (lv.getD n 0) = lv
            refine List.ext_getElem (by simp) (fun y h1 h2 => ?_)
            rw [List.getElem_set]
            by_cases e : n = y
            · subst e; rw [if_pos rfl]; simp [List.getD_eq_getElem?_getD, h2]
            · rw [if_neg e]
          rw [e]; exact HLV.out⟩, HBL⟩
        case round =>
          obtain ⟨j, rfl, hj, HLS, HBS⟩ := hrel
          clear x0 y0 y1
          by_cases hjl : j < rl.length
          · have hjl' : (j : Int) < (rl.length : Int) := by omega
            obtain ⟨ade, eae, z0⟩ := Kd.at_int (Kd.C_below HC1.out HBS.out) j (by omega) hjl'
            subst eae
            simp only [Int.toNat_natCast] at z0
            have hyb := HEL.out _ (List.getElem_mem hjl)
            obtain ⟨y, hy⟩ : ∃ y : Nat, rl[j] = (y : Int) := ⟨(rl[j]).toNat, by omega⟩
            have er : rd rl (j : Int) = (y : Int) := by rw [← hy]; simp [rd, hjl]
            rw [er] at z0
            rw [hy] at hyb
            obtain ⟨_, hyN, hyn⟩ := hyb
            have hyn' : ¬ (n = y) := by omega
            have hyn2 : ¬ (y = n) := by omega
            have hln : (lv.set n (bF lv (lv.getD n 0) (rl.take j))).length = N := by rw [List.length_set]; exact HLL.out
            have hls := HLS.out
            rw [← hln] at hls
            obtain ⟨m0, m1⟩ := Kd.R_cell 0 hls (n : Int) (by omega) (by rw [hln]; exact hnN')
            obtain ⟨k0, k1⟩ := Kd.R_cell 0 hls (y : Int) (by omega) (by rw [hln]; exact hyN)
            have e1 : rdOf 0 (lv.set n (bF lv (lv.getD n 0) (rl.take j))) (n : Int) = bF lv (lv.getD n 0) (rl.take j) := by
              unfold rdOf
              rw [Int.toNat_natCast, List.getD_eq_getElem?_getD, List.getElem?_set_self (by rw [HLL.out]; exact hnN)]
              rfl
            have e2 : rdOf 0 (lv.set n (bF lv (lv.getD n 0) (rl.take j))) (y : Int) = lv.getD y 0 := by
              unfold rdOf
              rw [Int.toNat_natCast, List.getD_eq_getElem?_getD, List.getElem?_set_ne hyn', List.getD_eq_getElem?_getD]
            rw [e1] at m0
            rw [e2] at k0
            simp only [Int.toNat_natCast] at m0 m1 k0 k1
            have HSN := Aside0.mk (bF_snoc lv (lv.getD n 0) (rl.take j) (y : Int))
            have HTK : Aside0 (rl.take (j + 1) = rl.take j ++ [(y : Int)]) := ⟨by rw [List.take_succ_eq_append_getElem hjl, hy]⟩
            rw [← HTK.out, Int.toNat_natCast] at HSN
            obtain ⟨hb0, hb1⟩ := bF_bd HBD.out HBN.out.1 HBN.out.2 (rl.take j)
            obtain ⟨hc0, hc1'⟩ := HBD.out y
            have HST := Aside0.mk (Kd.R_put hls (n : Int) (bF lv (lv.getD n 0) (rl.take (j + 1)))).1
            rw [Int.toNat_natCast, List.set_set] at HST
            rw [hln] at HST
            have hyN2 : y < N := by omega
            clear er e1 e2 hy
            have HS0 : Aside0 (w1.heap.size ≤ gb) := ⟨Kd.R_base HLS.out gb rfl⟩
            have HLN := Aside0.mk hln
            obtain ⟨b2, hb2⟩ : ∃ b2, bF lv (lv.getD n 0) (rl.take (j + 1)) = b2 := ⟨_, rfl⟩
            have HB2E := Aside0.mk hb2
            rw [hb2] at HSN HST
            clear hb2
            clear hln HLS hls
            generalize bF lv (lv.getD n 0) (rl.take j) = b1 at m0 hb0 hb1 HSN
            generalize lv.getD y 0 = yv at k0 hc0 hc1' HSN
            clear HLV
            have EW : Aside0 ((if b1 < yv + 1 then yv + 1 else b1) = b2) := ⟨by rw [HSN.out]⟩
            clear HSN
            go_wp2_with fail
            go_region
            all_goals
              rw [EW.out]
              have HSB := Aside0.mk ((HBS.out.setCell (p := ⟨gb, n, none⟩) HS0.out (.int .i64 b2)).drew)
              replace HST := Aside0.mk (Kd.R_drew HST.out)
              generalize (wr.setCell ⟨gb, n, none⟩ (.int .i64 b2)).drew = wX at HST HSB ⊢
              go_wp2_with fail
              go_roundg (rl.length - (j + 1))
              case measure => omega
              case rel => exact ⟨j + 1, by go_num, by omega, ⟨by rw [HB2E.out]; exact HST.out⟩, HSB⟩
          · have hje : rl.take j = rl := List.take_of_length_le (by omega)
            rw [hje] at HLS
            obtain ⟨hb0, hb1⟩ := bF_bd HBD.out HBN.out.1 HBN.out.2 rl
            have HLE2 : Aside0 (levL G ((ordA G).drop (i + 1)) (lv.set n (bF lv (lv.getD n 0) rl)) = levA G) := ⟨by
              have := HLE.out
              rw [HDR.out] at this
              rw [← this]
              unfold bF
              rw [← HRL.out]
              show _ = levL G ((ordA G).drop (i + 1)) (lv.set (n : Int).toNat _)
              rw [Int.toNat_natCast]⟩
            have HBD2 : Aside0 (∀ k : Nat, 0 ≤ (lv.set n (bF lv (lv.getD n 0) rl)).getD k 0 ∧ (lv.set n (bF lv (lv.getD n 0) rl)).getD k 0 ≤ ((i + 1 : Nat) : Int)) := ⟨fun k => by
              rw [List.getD_eq_getElem?_getD]
              by_cases e : n = k
              · subst e
                rw [List.getElem?_set_self (by rw [HLL.out]; exact hnN)]
                exact ⟨hb0, by show bF lv (lv.getD n 0) rl ≤ _; omega⟩
              · rw [List.getElem?_set_ne e, ← List.getD_eq_getElem?_getD]
                have := HBD.out k
                omega⟩
            clear hje hb0 hb1
            go_wp2_with fail
            go_roundg (M - (i + 1))
            case measure => omega
            case rel => exact ⟨i + 1, _, by go_num, by omega, ⟨by rw [List.length_set]; exact HLL.out⟩, HBD2, HLE2, HLS, HBS⟩
      · have HLF : Aside0 (lv = levA G) := ⟨by
          have := HLE.out
          rw [List.drop_of_length_le (by rw [HMM.out]; omega)] at this
          exact this⟩
        rw [HLF.out] at HLV
        go_wp2_with fail
        go_ret2
        rw [show levR G = levA G from if_pos H0.out, H0.out]
        exact ⟨_, rfl, Kd.R_mono (Kd.R_lower HLV.out HB.out.size) (fun k hk => Nat.le_trans HB.out.size hk), HB.out.trans (HBL.out.mono HB.out.size)⟩
  · have hb2 : (ordE G == 0) = false := by simpa using h0
    have hb3 : (ordE G != 0) = true := by simpa using h0
    have H0 := Aside0.mk h0
    clear h0 hv hb
    generalize hE : ordE G = er at hb2 hb3 ⊢
    have HE := Aside0.mk hE
    clear hE
    go_wp2_with fail
    go_ret2
    rw [show levR G = [] from if_neg H0.out, HE.out]
    exact ⟨_, rfl, Kd.R_nil _ _ _ _ _, HB.out⟩
end Go.Proofs.Ytkeadpichlgagaa.Wv
