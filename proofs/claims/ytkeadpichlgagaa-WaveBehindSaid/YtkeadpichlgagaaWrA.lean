/- WaveReady, walked. -/
import Derived.Test.YtkeadpichlgagaaWvU
namespace Go.Proofs.Ytkeadpichlgagaa.Wv
open Go.RowKit Go.Maps Go.Proofs.YtkeadpichlgagaaW.PrintWords Go.Proofs.YtkeadpichlgagaaW.PrintLast Go.Proofs.YtkeadpichlgagaaW.PrintMore
open Go.Proofs.Ytkeadpichlgagaa.PWaveReady Go.Proofs.Ytkeadpichlgagaa.Mp
set_option linter.unusedVariables false
set_option linter.unusedSimpArgs false
set_option linter.unnecessarySimpa false

theorem sumF_row : ∀ (G : Gr) (y : Nat), y < G.length → (row G (y : Int)).length ≤ sumF G
  | [], y, h => by simp at h
  | l :: r, 0, h => by simp [row, sumF]
  | l :: r, y + 1, h => by
    have := sumF_row r y (by simpa using h)
    have e : row (l :: r) ((y + 1 : Nat) : Int) = row r (y : Int) := by simp only [row, Int.toNat_natCast, List.getD_cons_succ]
    rw [e]
    simp only [sumF]; omega
structure Sml (G : Gr) : Prop where
  n : G.length ≤ 12
  rows : ∀ y : Nat, y < G.length → (row G (y : Int)).length ≤ 60
theorem sml_of {G : Gr} (h : smallB G = true) : Sml G := by
  unfold smallB at h
  rw [decide_eq_true_eq] at h
  exact ⟨h.1, fun y hy => by have := sumF_row G y hy; omega⟩
theorem Sml.sz {G : Gr} (h : Sml G) : Gsz G := ⟨by have := h.n; omega, fun y hy => by have := h.rows y hy; omega⟩
theorem small_calls (A : Option Addr) (c : Nat) (G : Gr) (w : World) (hr : GC w A G) (hc : G.length ≤ c) (hN : G.length ≤ 9223372036854775806) (hw : ∀ y : Nat, y < G.length → (row G (y : Int)).length ≤ 1000000000000000) :
    Calls Try.prog 17 #[.slice A G.length c] w fun e w' => e = .returned (.bool (smallB G)) ∧ Below w.heap.size w w' := by
  obtain ⟨k, hk⟩ := (small_ev G hN hw).rounds
  refine (echelonlaw14_small.calls k A c G _ w hr hc hk).mono fun e w' ⟨he, hd⟩ => ⟨he, ?_⟩
  obtain ⟨n, rfl⟩ := hd.out
  exact pw_below_drewN (Below.refl _ _) _
theorem rorder_calls (A : Option Addr) (c : Nat) (G : Gr) (w : World) (hr : GC w A G) (hc : G.length ≤ c) (hz : Gsz G) :
    Calls Try.prog 20 #[.slice A G.length c] w fun e w' => ∃ v, e = .returned (.tuple #[v, .int .i64 (ordE G)]) ∧ (Kd.int .i64).R 3 w' w.heap.size (fun _ => True) v (ordR G).1 ∧ Below w.heap.size w w' := by
  obtain ⟨k, hk⟩ := (rorder_ev G (by have := hz.n; omega) (fun y hy => by have := hz.rows y hy; omega)).rounds
  refine (echelonref14_Order.calls k A c G (ordR G).1 (ordR G).2 w hr hc hk).mono fun e w' h => ?_
  rwa [ordR_snd] at h
theorem leads_calls (A : Option Addr) (c : Nat) (G : Gr) (s x : Int) (w : World) (hr : GC w A G) (hc : G.length ≤ c) (hz : Gsz G) (ht : Rt G) (h0 : 0 ≤ x) (h1 : x < G.length) :
    Calls Try.prog 26 #[.slice A G.length c, .int .i64 s, .int .i64 x] w fun e w' => e = .returned (.bool (ld G s x)) ∧ Below w.heap.size w w' := by
  obtain ⟨i, hi, rfl⟩ := List.getElem_of_mem (ht.mem h0 h1)
  obtain ⟨k, hk⟩ := (leads_ev G s (fun y hy => by have := hz.rows y hy; omega) i hi).rounds
  refine (echelonref14_Leads.calls k A c G s _ _ w hr hc hk).mono fun e w' ⟨he, hd⟩ => ⟨he, ?_⟩
  obtain ⟨n, rfl⟩ := hd.out
  exact pw_below_drewN (Below.refl _ _) _
def bsel (G : Gr) (n k : Int) : Bool := decide (0 ≤ n ∧ n < G.length) && ld G n k
theorem behR_sel {G : Gr} (h : ordE G = 0) (n : Int) : behR G n = (rng G.length).filter (bsel G n) := by
  unfold behR
  by_cases hn : 0 ≤ n ∧ n < G.length
  · rw [if_pos ⟨h, hn⟩]
    refine List.filter_congr (fun x _ => ?_)
    unfold bsel
    rw [decide_eq_true hn, Bool.true_and]
  · rw [if_neg (fun e => hn e.2)]
    symm
    rw [List.filter_eq_nil_iff]
    intro x _
    unfold bsel
    rw [decide_eq_false hn, Bool.false_and]
    simp
theorem all_take {p : Int → Bool} {l : List Int} {i : Nat} (h : i < l.length) : (l.take (i + 1)).all p = ((l.take i).all p && p l[i]) := by
  rw [List.take_succ_eq_append_getElem h, List.all_append]
  simp

set_option maxHeartbeats 4000000 in
set_option maxRecDepth 100000 in
theorem ready_law (A : Option Addr) (c : Nat) (G : Gr) (Ao : Option Addr) (co : Nat) (over : List Bool) (n : Int) (w : World) (hr : GC w A G) (hc : G.length ≤ c) (hN : G.length ≤ 9223372036854775806) (hw : ∀ y : Nat, y < G.length → (row G (y : Int)).length ≤ 1000000000000000)
    (ho : Kd.bool.C w Ao over.length over) (hco : over.length ≤ co) :
    Calls Try.prog 4 #[.slice A G.length c, .slice Ao over.length co, .int .i64 n] w fun e w' => e = .returned (.bool true) ∧ Below w.heap.size w w' := by
  have HR := Aside0.mk hr
  have HO := Aside0.mk ho
  have HW := Aside0.mk (And.intro hN hw)
  clear hr ho hN hw
  go_enter Try.func4, Try.ntmps4
  go_wp2_with fail
  refine (awake_calls _).mono ?_
  rintro e w1 ⟨rfl, hb⟩
  have HB1 := Aside0.mk hb
  clear hb
  go_wp2_with fail
  refine (small_calls A c G w1 (Kd.C_below HR.out HB1.out) hc HW.out.1 HW.out.2).mono ?_
  rintro e w2 ⟨rfl, hb⟩
  have HB2 := Aside0.mk (HB1.out.trans (hb.mono HB1.out.size))
  clear hb HB1
  cases hsm : smallB G with
  | false =>
    clear hsm
    go_wp2_with fail
    refine (awake_calls _).mono ?_
    rintro e w3 ⟨rfl, hb⟩
    have HB3 := Aside0.mk (HB2.out.trans (hb.mono HB2.out.size))
    clear hb
    go_wp2_with fail
    go_ret
    exact ⟨rfl, HB3.out⟩
  | true =>
    have HS := Aside0.mk (sml_of hsm)
    clear hsm
    by_cases h100 : (100 : Int) < over.length
    · have hd : decide ((100 : Int) < over.length) = true := decide_eq_true h100
      go_wp2_with fail
      refine (awake_calls _).mono ?_
      rintro e w3 ⟨rfl, hb⟩
      have HB3 := Aside0.mk (HB2.out.trans (hb.mono HB2.out.size))
      clear hb
      go_wp2_with fail
      go_ret
      exact ⟨rfl, HB3.out⟩
    · have hd : decide ((100 : Int) < over.length) = false := decide_eq_false h100
      go_wp2_with fail
      refine (rorder_calls A c G w2 (Kd.C_below HR.out HB2.out) hc HS.out.sz).mono ?_
      rintro e w3 ⟨v3, rfl, hv, hb⟩
      have HB3 := Aside0.mk (HB2.out.trans (hb.mono HB2.out.size))
      clear hb hv HB2
      go_wp2_with fail
      refine (ready_calls Ao co over A c G w3 (Kd.C_below HO.out HB3.out) (Kd.C_below HR.out HB3.out) hc HS.out.sz).mono ?_
      rintro e w4 ⟨v4, rfl, hv, hb⟩
      have HB4 := Aside0.mk (HB3.out.trans (hb.mono HB3.out.size))
      have HV4 := Aside0.mk hv
      clear hb hv HB3
      go_wp2_with fail
      refine (behind_calls n A c G w4 (Kd.C_below HR.out HB4.out) hc HS.out.sz).mono ?_
      rintro e w5 ⟨v5, rfl, hv, hb⟩
      have HB5 := Aside0.mk (HB4.out.trans (hb.mono HB4.out.size))
      have HV5 := Aside0.mk hv
      replace HV4 := Aside0.mk (Kd.R_below HV4.out hb)
      clear hb hv HB4
      obtain ⟨A4, c4, rfl⟩ := Kd.R_slice HV4.out
      obtain ⟨A5, c5, rfl⟩ := Kd.R_slice HV5.out
      by_cases h0 : ordE G = 0
      · have H0 := Aside0.mk h0
        have HRT := Aside0.mk (rt_of h0)
        have HE4 : Aside0 (rdyO G over = (rng G.length).filter (isRO G over)) := ⟨by unfold rdyO; rw [if_pos h0]⟩
        have HE5 := Aside0.mk (behR_sel h0 n)
        rw [h0]
        clear h0
        have hl4 : (rdyO G over).length ≤ 12 := by rw [HE4.out]; have := rngf_length (isRO G over) G.length; have := HS.out.n; omega
        have hl5 : (behR G n).length ≤ 12 := by rw [HE5.out]; have := rngf_length (bsel G n) G.length; have := HS.out.n; omega
        obtain ⟨N, hNN⟩ : ∃ N, G.length = N := ⟨_, rfl⟩
        have HNN := Aside0.mk hNN
        have hn12 := HS.out.n
        rw [hNN] at hc hn12 ⊢
        clear hNN
        go_wp2_with fail
        go_loopg [11, 12, 13, 14, 15] N (fun kq v11 v12 v13 v14 v15 wr => ∃ (i : Nat), v13 = .int .i64 i ∧ i + kq = N ∧ Aside0 ((Kd.int .i64).R 3 wr w5.heap.size (fun k => w5.heap.size ≤ k) v11 ((rng i).filter (isRO G over))) ∧ Aside0 ((Kd.int .i64).R 3 wr w5.heap.size (fun k => w5.heap.size ≤ k) v12 ((rng i).filter (bsel G n))) ∧ Aside0 (∀ k, v11.ownBlock = some k → v12.ownBlock ≠ some k) ∧ Aside0 (Below w5.heap.size w5 wr))
        case atStart => exact ⟨0, rfl, by omega, ⟨Kd.R_nil _ _ _ _ _⟩, ⟨Kd.R_nil _ _ _ _ _⟩, ⟨fun k hk => by simp [Value.ownBlock] at hk⟩, ⟨Below.refl _ _⟩⟩
        case round =>
          obtain ⟨i, rfl, hi, H11, H12, HNE, HBL⟩ := hrel
          by_cases hlt : i < N
          · have hlt' : (i : Int) < (N : Int) := by omega
            have HBW := Aside0.mk (HB5.out.trans (HBL.out.mono HB5.out.size))
            have HRW := Aside0.mk (Kd.C_below HR.out HBW.out)
            have HOW := Aside0.mk (Kd.C_below HO.out HBW.out)
            obtain ⟨adr, A1, c1, ear, y0, hcap, hC1⟩ := at_L1 HRW.out i (by omega) (by rw [HNN.out]; exact hlt')
            subst ear
            rw [rd_row] at y0 hcap hC1
            simp only [Int.toNat_natCast] at y0
            have HC1 := Aside0.mk hC1
            have hel : ∀ e ∈ row G (i : Int), 0 ≤ e := fun e he => (HRT.out.ok.at' i (by omega) (by rw [HNN.out]; omega) e he).1
            have HEL := Aside0.mk hel
            have HRL := HS.out.rows i (by rw [HNN.out]; exact hlt)
            have HF1 := Aside0.mk (rngf_succ (isRO G over) i)
            have HF2 := Aside0.mk (rngf_succ (bsel G n) i)
            have HRO : Aside0 (isRO G over (i : Int) = (!isO over (i : Int) && (row G (i : Int)).all (isO over))) := ⟨rfl⟩
            have hfl1 := rngf_length (isRO G over) i
            have hfl2 := rngf_length (bsel G n) i
            obtain ⟨rl, hrl⟩ : ∃ rl, row G (i : Int) = rl := ⟨_, rfl⟩
            rw [hrl] at y0 hcap HC1 HEL HRL HRO
            clear hel hC1 hrl
            obtain ⟨xs, hxs⟩ : ∃ xs, (rng i).filter (isRO G over) = xs := ⟨_, rfl⟩
            obtain ⟨ys, hys⟩ : ∃ ys, (rng i).filter (bsel G n) = ys := ⟨_, rfl⟩
            rw [hxs] at H11 HF1 hfl1
            rw [hys] at H12 HF2 hfl2
            clear hxs hys
            obtain ⟨oi, hoi⟩ : ∃ oi, isO over (i : Int) = oi := ⟨_, rfl⟩
            have HOI := Aside0.mk hoi
            rw [hoi] at HRO
            clear hoi
            go_upto_region 11 with fail
            go_cut [14] (fun v14 wx => v14 = .bool (!oi) ∧ Aside0 (wx = wr))
            case first =>
              by_cases hio : i < over.length
              · have hio' : (i : Int) < (over.length : Int) := by omega
                obtain ⟨ado, eao, z0⟩ := Kd.at_bool HOW.out i (by omega) hio'
                subst eao
                simp only [Int.toNat_natCast] at z0
                have HEO : Aside0 (rdOf false over (i : Int) = oi) := ⟨by rw [← HOI.out]; unfold isO; rw [decide_eq_true hio', Bool.true_and]⟩
                rw [HEO.out] at z0
                have hio2 : decide (over.length ≤ i) = false := decide_eq_false (by omega)
                go_wp2_with fail
                go_meet
                case rel => exact ⟨rfl, ⟨rfl⟩⟩
              · have HEO : Aside0 (oi = false) := ⟨by rw [← HOI.out]; unfold isO; rw [decide_eq_false (by omega), Bool.false_and]⟩
                go_wp2_with fail
                go_meet
                case rel => exact ⟨by rw [HEO.out]; rfl, ⟨rfl⟩⟩
            case rest =>
              obtain ⟨rfl, HWC⟩ := hcut
              obtain rfl := HWC.out
              go_wp2_with fail
              go_loopg [14, 15] rl.length (fun kq v14 v15 wq => ∃ (j : Nat), v15 = .int .i64 j ∧ v14 = .bool (!oi && (rl.take j).all (isO over)) ∧ j + kq = rl.length ∧ Aside0 (wq = wc))
              case atStart => exact ⟨0, rfl, by simp, by omega, ⟨rfl⟩⟩
              case round =>
                obtain ⟨j, rfl, rfl, hj, HWQ⟩ := hrel
                obtain rfl := HWQ.out
                by_cases hjl : j < rl.length
                · have hjl' : (j : Int) < (rl.length : Int) := by omega
                  obtain ⟨ade, eae, z0⟩ := Kd.at_int HC1.out j (by omega) hjl'
                  subst eae
                  simp only [Int.toNat_natCast] at z0
                  have er : rd rl (j : Int) = rl[j] := by simp [rd, hjl]
                  rw [er] at z0
                  have he0 := HEL.out _ (List.getElem_mem hjl)
                  have HTK : Aside0 ((!oi && (rl.take (j + 1)).all (isO over)) = ((!oi && (rl.take j).all (isO over)) && isO over rl[j])) := ⟨by rw [all_take hjl, Bool.and_assoc]⟩
                  clear er
                  obtain ⟨ev, hev⟩ : ∃ ev : Nat, rl[j] = (ev : Int) := ⟨(rl[j]).toNat, by omega⟩
                  rw [hev] at z0 HTK
                  clear hev he0
                  generalize (!oi && (rl.take j).all (isO over)) = bj at HTK ⊢
                  cases bj with
                  | false =>
                    go_wp2_with fail
                    go_roundg (rl.length - (j + 1))
                    case measure => omega
                    case rel => exact ⟨j + 1, by go_num, by rw [HTK.out]; rfl, by omega, ⟨rfl⟩⟩
                  | true =>
                    by_cases heo : ev < over.length
                    · have heo' : (ev : Int) < (over.length : Int) := by omega
                      obtain ⟨ado, eao, q0⟩ := Kd.at_bool HOW.out ev (by omega) heo'
                      subst eao
                      simp only [Int.toNat_natCast] at q0
                      have HEO : Aside0 (isO over (ev : Int) = rdOf false over (ev : Int)) := ⟨by unfold isO; rw [decide_eq_true heo', Bool.true_and]⟩
                      generalize rdOf false over (ev : Int) = rv at q0 HEO
                      go_wp2_with fail
                      go_roundg (rl.length - (j + 1))
                      case measure => omega
                      case rel => exact ⟨j + 1, by go_num, by rw [HTK.out, HEO.out]; rfl, by omega, ⟨rfl⟩⟩
                    · have HEO : Aside0 (isO over (ev : Int) = false) := ⟨by unfold isO; rw [decide_eq_false (by omega), Bool.false_and]⟩
                      have heo2 : decide (ev < over.length) = false := decide_eq_false heo
                      go_wp2_with fail
                      go_roundg (rl.length - (j + 1))
                      case measure => omega
                      case rel => exact ⟨j + 1, by go_num, by rw [HTK.out, HEO.out]; rfl, by omega, ⟨rfl⟩⟩
                · have hje : rl.take j = rl := List.take_of_length_le (by omega)
                  rw [hje, ← HRO.out]
                  rw [HRO.out] at HF1
                  rw [← HRO.out] at HF1
                  clear hje
                  generalize isRO G over (i : Int) = ri at HF1 ⊢
                  cases ri with
                  | false =>
                    simp only [Bool.false_eq_true, if_false, List.append_nil] at HF1
                    replace H11 : Aside0 ((Kd.int .i64).R 3 wr w5.heap.size (fun k => w5.heap.size ≤ k) u11 ((rng (i + 1)).filter (isRO G over))) := ⟨by rw [HF1.out]; exact H11.out⟩
                    by_cases hn : 0 ≤ n ∧ n < (N : Int)
                    · have hd1 : decide (0 ≤ n) = true := decide_eq_true hn.1
                      have hd2 : decide (n < (N : Int)) = true := decide_eq_true hn.2
                      have HSL : Aside0 (bsel G n (i : Int) = ld G n (i : Int)) := ⟨by unfold bsel; rw [decide_eq_true (by rw [HNN.out]; exact hn), Bool.true_and]⟩
                      clear hn
                      go_wp2_with fail
                      have CL := leads_calls _ c G n (i : Int) wr (Kd.C_below HR.out (HB5.out.trans (HBL.out.mono HB5.out.size))) (by rw [HNN.out]; exact hc) HS.out.sz HRT.out (by omega) (by rw [HNN.out]; omega)
                      rw [HNN.out] at CL
                      refine CL.mono ?_
                      clear CL
                      rintro e w7 ⟨rfl, hb⟩
                      have HBL7 := Aside0.mk (HBL.out.trans (hb.mono HBL.out.size))
                      have H117 := Aside0.mk (Kd.R_below H11.out hb)
                      have H127 := Aside0.mk (Kd.R_below H12.out hb)
                      clear hb
                      rw [HSL.out] at HF2
                      generalize ld G n (i : Int) = lb at HF2 ⊢
                      cases lb with
                      | false =>
                        simp only [Bool.false_eq_true, if_false, List.append_nil] at HF2
                        go_wp2_with fail
                        go_roundg (N - (i + 1))
                        case measure => omega
                        case rel => exact ⟨i + 1, by go_num, by omega, H117, ⟨by rw [HF2.out]; exact H127.out⟩, HNE, HBL7⟩
                      | true =>
                        simp only [if_true] at HF2
                        go_wp2_with ((with_reducible refine gate_builtin (b := .append) (xs := #[.tmp 120, .tmp 122]) rfl ?_); at_builtin; refine Kd.R_append (Kd.int .i64) (w0 := w5) w5.heap.size rfl (.tmp 120) (.tmp 122) 25 3 (.int .i64 0) 8 rfl Try.underlying25 info3 rfl (by decide) (by decide) u12 ys (i : Int) [.int .i64 (i : Int)] (fun k => w5.heap.size ≤ k) (fun _ => False) rfl rfl ?aP (fun _ hk => hk.elim) ?aF ?aO ?aB ?aS ?aL ?_; (case aP => exact rfl); (case aF => exact fun k hk => Nat.le_trans HBL7.out.size hk); (case aO => exact H127.out); (case aB => exact HBL7.out); (case aS => exact HBL7.out.size); (case aL => omega); intro v9 w9 ho9 hb9 hg9 hat9; have HO9 := Aside0.mk ho9; have HB9 := Aside0.mk hb9; have HG9 := Aside0.mk hg9; have HA9 := Aside0.mk hat9; clear ho9 hb9 hg9 hat9)
                        rw [← HF2.out] at HO9
                        have H119 : Aside0 ((Kd.int .i64).R 3 w9 w5.heap.size (fun k => w5.heap.size ≤ k) u11 ((rng (i + 1)).filter (isRO G over))) := ⟨Ri_move H117.out (fun k hk => HG9.out.block k (Kd.R_lt H117.out k hk) (fun e => HNE.out k hk e.symm))⟩
                        have HNE9 : Aside0 (∀ k, (u11 : Value).ownBlock = some k → v9.ownBlock ≠ some k) := ⟨fun k hk e => by
                          rcases HA9.out with e1 | ⟨b, e1, hb1⟩
                          · exact HNE.out k hk (e1.symm.trans e)
                          · rw [e1] at e; injection e with e; have := Kd.R_lt H117.out k hk; omega⟩
                        go_roundg (N - (i + 1))
                        case measure => omega
                        case rel => exact ⟨i + 1, by go_num, by omega, H119, HO9, HNE9, HB9⟩
                    · have HSL : Aside0 (bsel G n (i : Int) = false) := ⟨by unfold bsel; rw [decide_eq_false (by rw [HNN.out]; exact hn), Bool.false_and]⟩
                      rw [HSL.out] at HF2
                      simp only [Bool.false_eq_true, if_false, List.append_nil] at HF2
                      by_cases hn1 : 0 ≤ n
                      · have hd1 : decide (0 ≤ n) = true := decide_eq_true hn1
                        have hd2 : decide (n < (N : Int)) = false := decide_eq_false (by omega)
                        clear hn
                        go_wp2_with fail
                        go_roundg (N - (i + 1))
                        case measure => omega
                        case rel => exact ⟨i + 1, by go_num, by omega, H11, ⟨by rw [HF2.out]; exact H12.out⟩, HNE, HBL⟩
                      · have hd1 : decide (0 ≤ n) = false := decide_eq_false hn1
                        clear hn
                        go_wp2_with fail
                        go_roundg (N - (i + 1))
                        case measure => omega
                        case rel => exact ⟨i + 1, by go_num, by omega, H11, ⟨by rw [HF2.out]; exact H12.out⟩, HNE, HBL⟩
                  | true =>
                    simp only [if_true] at HF1
                    go_upto_region 18 with ((with_reducible refine gate_builtin (b := .append) (xs := #[.tmp 102, .tmp 104]) rfl ?_); at_builtin; refine Kd.R_append (Kd.int .i64) (w0 := w5) w5.heap.size rfl (.tmp 102) (.tmp 104) 25 3 (.int .i64 0) 8 rfl Try.underlying25 info3 rfl (by decide) (by decide) u11 xs (i : Int) [.int .i64 (i : Int)] (fun k => w5.heap.size ≤ k) (fun _ => False) rfl rfl ?aP (fun _ hk => hk.elim) ?aF ?aO ?aB ?aS ?aL ?_; (case aP => exact rfl); (case aF => exact fun k hk => Nat.le_trans HBL.out.size hk); (case aO => exact H11.out); (case aB => exact HBL.out); (case aS => exact HBL.out.size); (case aL => omega); intro v6 w6 ho6 hb6 hg6 hat6; have HO6 := Aside0.mk ho6; have HB6 := Aside0.mk hb6; have HG6 := Aside0.mk hg6; have HA6 := Aside0.mk hat6; clear ho6 hb6 hg6 hat6)
                    rw [← HF1.out] at HO6
                    have H126 : Aside0 ((Kd.int .i64).R 3 w6 w5.heap.size (fun k => w5.heap.size ≤ k) u12 ys) := ⟨Ri_move H12.out (fun k hk => HG6.out.block k (Kd.R_lt H12.out k hk) (fun e => HNE.out k e.symm hk))⟩
                    have HNE6 : Aside0 (∀ k, v6.ownBlock = some k → u12.ownBlock ≠ some k) := ⟨fun k hk e => by
                      rcases HA6.out with e1 | ⟨b, e1, hb1⟩
                      · exact HNE.out k (e1.symm.trans hk) e
                      · rw [e1] at hk; injection hk with hk; have := Kd.R_lt H12.out k e; omega⟩
                    clear H11 H12 HNE HBL HG6 HA6
                    by_cases hn : 0 ≤ n ∧ n < (N : Int)
                    · have hd1 : decide (0 ≤ n) = true := decide_eq_true hn.1
                      have hd2 : decide (n < (N : Int)) = true := decide_eq_true hn.2
                      have HSL : Aside0 (bsel G n (i : Int) = ld G n (i : Int)) := ⟨by unfold bsel; rw [decide_eq_true (by rw [HNN.out]; exact hn), Bool.true_and]⟩
                      clear hn
                      go_wp2_with fail
                      have CL := leads_calls _ c G n (i : Int) w6 (Kd.C_below HR.out (HB5.out.trans (HB6.out.mono HB5.out.size))) (by rw [HNN.out]; exact hc) HS.out.sz HRT.out (by omega) (by rw [HNN.out]; omega)
                      rw [HNN.out] at CL
                      refine CL.mono ?_
                      clear CL
                      rintro e w7 ⟨rfl, hb⟩
                      have HBL7 := Aside0.mk (HB6.out.trans (hb.mono HB6.out.size))
                      have H117 := Aside0.mk (Kd.R_below HO6.out hb)
                      have H127 := Aside0.mk (Kd.R_below H126.out hb)
                      clear hb
                      rw [HSL.out] at HF2
                      generalize ld G n (i : Int) = lb at HF2 ⊢
                      cases lb with
                      | false =>
                        simp only [Bool.false_eq_true, if_false, List.append_nil] at HF2
                        go_wp2_with fail
                        go_roundg (N - (i + 1))
                        case measure => omega
                        case rel => exact ⟨i + 1, by go_num, by omega, H117, ⟨by rw [HF2.out]; exact H127.out⟩, HNE6, HBL7⟩
                      | true =>
                        simp only [if_true] at HF2
                        go_wp2_with ((with_reducible refine gate_builtin (b := .append) (xs := #[.tmp 120, .tmp 122]) rfl ?_); at_builtin; refine Kd.R_append (Kd.int .i64) (w0 := w5) w5.heap.size rfl (.tmp 120) (.tmp 122) 25 3 (.int .i64 0) 8 rfl Try.underlying25 info3 rfl (by decide) (by decide) u12 ys (i : Int) [.int .i64 (i : Int)] (fun k => w5.heap.size ≤ k) (fun _ => False) rfl rfl ?aP (fun _ hk => hk.elim) ?aF ?aO ?aB ?aS ?aL ?_; (case aP => exact rfl); (case aF => exact fun k hk => Nat.le_trans HBL7.out.size hk); (case aO => exact H127.out); (case aB => exact HBL7.out); (case aS => exact HBL7.out.size); (case aL => omega); intro v9 w9 ho9 hb9 hg9 hat9; have HO9 := Aside0.mk ho9; have HB9 := Aside0.mk hb9; have HG9 := Aside0.mk hg9; have HA9 := Aside0.mk hat9; clear ho9 hb9 hg9 hat9)
                        rw [← HF2.out] at HO9
                        have H119 : Aside0 ((Kd.int .i64).R 3 w9 w5.heap.size (fun k => w5.heap.size ≤ k) v6 ((rng (i + 1)).filter (isRO G over))) := ⟨Ri_move H117.out (fun k hk => HG9.out.block k (Kd.R_lt H117.out k hk) (fun e => HNE6.out k hk e.symm))⟩
                        have HNE9 : Aside0 (∀ k, (v6 : Value).ownBlock = some k → v9.ownBlock ≠ some k) := ⟨fun k hk e => by
                          rcases HA9.out with e1 | ⟨b, e1, hb1⟩
                          · exact HNE6.out k hk (e1.symm.trans e)
                          · rw [e1] at e; injection e with e; have := Kd.R_lt H117.out k hk; omega⟩
                        go_roundg (N - (i + 1))
                        case measure => omega
                        case rel => exact ⟨i + 1, by go_num, by omega, H119, HO9, HNE9, HB9⟩
                    · have HSL : Aside0 (bsel G n (i : Int) = false) := ⟨by unfold bsel; rw [decide_eq_false (by rw [HNN.out]; exact hn), Bool.false_and]⟩
                      rw [HSL.out] at HF2
                      simp only [Bool.false_eq_true, if_false, List.append_nil] at HF2
                      by_cases hn1 : 0 ≤ n
                      · have hd1 : decide (0 ≤ n) = true := decide_eq_true hn1
                        have hd2 : decide (n < (N : Int)) = false := decide_eq_false (by omega)
                        clear hn
                        go_wp2_with fail
                        go_roundg (N - (i + 1))
                        case measure => omega
                        case rel => exact ⟨i + 1, by go_num, by omega, HO6, ⟨by rw [HF2.out]; exact H126.out⟩, HNE6, HB6⟩
                      · have hd1 : decide (0 ≤ n) = false := decide_eq_false hn1
                        clear hn
                        go_wp2_with fail
                        go_roundg (N - (i + 1))
                        case measure => omega
                        case rel => exact ⟨i + 1, by go_num, by omega, HO6, ⟨by rw [HF2.out]; exact H126.out⟩, HNE6, HB6⟩
          · have hiN : i = N := by omega
            subst hiN
            have h11 := H11.out
            have h12 := H12.out
            rw [← HNN.out, ← HE4.out] at h11
            rw [← HNN.out, ← HE5.out] at h12
            have H11' := Aside0.mk h11
            have H12' := Aside0.mk h12
            clear h11 h12 H11 H12
            obtain ⟨A11, c11, rfl⟩ := Kd.R_slice H11'.out
            obtain ⟨A12, c12, rfl⟩ := Kd.R_slice H12'.out
            have HX4 := Aside0.mk (Kd.R_reads' (Kd.R_below HV4.out HBL.out))
            have HX5 := Aside0.mk (Kd.R_reads' (Kd.R_below HV5.out HBL.out))
            have HX11 := Aside0.mk (Kd.R_reads' H11'.out)
            have HX12 := Aside0.mk (Kd.R_reads' H12'.out)
            go_wp2_with fail
            refine (ints_calls A4 c4 (rdyO G over) A11 c11 (rdyO G over) wr HX4.out.2.2 HX4.out.2.1 HX11.out.2.2 HX11.out.2.1 (by omega)).mono ?_
            rintro e w6 ⟨rfl, hb⟩
            rw [show decide (rdyO G over = rdyO G over) = true from decide_eq_true rfl]
            have HB6 := Aside0.mk (HBL.out.trans (hb.mono HBL.out.size))
            have C5 := Aside0.mk (Kd.C_below HX5.out.2.2 hb)
            have C12 := Aside0.mk (Kd.C_below HX12.out.2.2 hb)
            clear hb
            go_wp2_with fail
            refine (ints_calls A5 c5 (behR G n) A12 c12 (behR G n) w6 C5.out HX5.out.2.1 C12.out HX12.out.2.1 (by omega)).mono ?_
            rintro e w7 ⟨rfl, hb⟩
            rw [show decide (behR G n = behR G n) = true from decide_eq_true rfl]
            have HB7 := Aside0.mk (HB6.out.trans (hb.mono HB6.out.size))
            clear hb
            go_wp2_with fail
            go_ret
            exact ⟨rfl, HB5.out.trans (HB7.out.mono HB5.out.size)⟩
      · have hE4 : rdyO G over = [] := by unfold rdyO; rw [if_neg h0]
        have hE5 : behR G n = [] := by unfold behR; rw [if_neg (fun e => h0 e.1)]
        have hb2 : (ordE G == 0) = false := by simpa using h0
        have hb3 : (ordE G != 0) = true := by simpa using h0
        rw [hE4, hE5]
        clear h0 hE4 hE5
        generalize ordE G = er at hb2 hb3 ⊢
        go_wp2_with fail
        go_ret
        exact ⟨rfl, HB5.out⟩
end Go.Proofs.Ytkeadpichlgagaa.Wv
