/- LeaseAll, walked. -/
import Derived.Test.YtnkpleggmiamdaaLeI
namespace Go.Proofs.Ytnkpleggmiamdaa.Le
open Go.RowKit Go.Maps Go.Proofs.YtnkpleggmiamdaaW.PrintWords Go.Proofs.YtnkpleggmiamdaaW.PrintLast Go.Proofs.YtnkpleggmiamdaaW.PrintMore
open Go.Proofs.Ytnkpleggmiamdaa.PLeaseFull Go.Proofs.Ytnkpleggmiamdaa.Mp
set_option linter.unusedVariables false
set_option linter.unusedSimpArgs false

def wm (y : Int) : Int := (wrap64 (y.tmod 30 + 30)).tmod 30
theorem wm_b (y : Int) : 0 ≤ wm y ∧ wm y < 30 := by
  obtain ⟨t, e, h0, h1⟩ := bmod y 30 (by omega) (by omega)
  unfold wm
  omega
theorem R_at_ge {α : Type} {d : Kd α} {e n c : Nat} {w : World} {B : Nat} {ok : Nat → Prop} {A : Option Addr} {xs : List α} (h : d.R e w B ok (.slice A n c) xs) : ∀ k, AtB A k → B ≤ k ∧ k < w.heap.size := fun k hk => by
  have hob : (Value.slice A n c).ownBlock = some k := by
    cases A with
    | none => exact absurd hk AtB.none
    | some a => exact hk
  exact ⟨Kd.R_base h k hob, Kd.R_lt h k hob⟩

set_option maxHeartbeats 4000000 in
set_option maxRecDepth 100000 in
theorem all_law_calls (a0 : Int) (A1 : Option Addr) (c1 : Nat) (hs : List Int) (A2 : Option Addr) (c2 : Nat) (ws : List Int) (w : World) (hr1 : (Kd.int .i64).C w A1 hs.length hs) (hc1 : hs.length ≤ c1) (hr2 : (Kd.int .i64).C w A2 ws.length ws) (hc2 : ws.length ≤ c2) (w0 : (Lit.int .i64 a0).wf = true) :
    Calls Try.prog 12 #[.int .i64 a0, .slice A1 hs.length c1, .slice A2 ws.length c2] w fun e w' => e = .returned (.bool true) ∧ Below w.heap.size w w' := by
  have HR1 := Aside0.mk hr1
  have HR2 := Aside0.mk hr2
  clear hr1 hr2 hc1 hc2 w0
  by_cases hlen : (30 : Int) < hs.length ∨ (30 : Int) < ws.length
  · by_cases h1 : (30 : Int) < hs.length
    · have b1 : decide ((30 : Int) < hs.length) = true := decide_eq_true h1
      clear hlen h1
      go_enter Try.func12, Try.ntmps12
      go_wp2_with fail
      refine (awake_calls _).mono ?_
      rintro e w1 ⟨rfl, hb⟩
      have HB1 := Aside0.mk hb
      clear hb
      go_wp2_with fail
      refine (awake_calls _).mono ?_
      rintro e w2 ⟨rfl, hb⟩
      have HB2 := Aside0.mk (HB1.out.trans (hb.mono HB1.out.size))
      clear hb
      go_wp2_with fail
      go_ret
      exact ⟨rfl, HB2.out⟩
    · have b1 : decide ((30 : Int) < hs.length) = false := decide_eq_false h1
      have b2 : decide ((30 : Int) < ws.length) = true := decide_eq_true (by omega)
      clear hlen h1
      go_enter Try.func12, Try.ntmps12
      go_wp2_with fail
      refine (awake_calls _).mono ?_
      rintro e w1 ⟨rfl, hb⟩
      have HB1 := Aside0.mk hb
      clear hb
      go_wp2_with fail
      refine (awake_calls _).mono ?_
      rintro e w2 ⟨rfl, hb⟩
      have HB2 := Aside0.mk (HB1.out.trans (hb.mono HB1.out.size))
      clear hb
      go_wp2_with fail
      go_ret
      exact ⟨rfl, HB2.out⟩
  · have hl1 : hs.length ≤ 30 := by omega
    have hl2 : ws.length ≤ 30 := by omega
    clear hlen
    obtain ⟨t, et, t0, t1⟩ := bmod a0 20 (by omega) (by omega)
    go_enter Try.func12, Try.ntmps12
    go_wp2_with fail
    refine (awake_calls _).mono ?_
    rintro e w1 ⟨rfl, hb⟩
    have HB1 := Aside0.mk hb
    clear hb
    go_wp2_with fail
    obtain ⟨N, hN⟩ : ∃ N : Int, 1 + t = N := ⟨_, rfl⟩
    have hN1 : 1 ≤ N := by omega
    have hN2 : N ≤ 20 := by omega
    rw [hN]
    clear hN et t0 t1
    refine (new_in N w1 (by omega) w HB1.out).mono ?_
    rintro e w2 ⟨p, bm, rfl, h⟩
    have H2 := Aside0.mk h
    clear h HB1
    go_wp2_with fail
    go_loopg [9] hs.length (fun kq v9 wr => ∃ (i : Nat) (M : Tab), v9 = .int .i64 i ∧ i + kq = hs.length ∧ Aside0 (Pos M) ∧ Aside0 (LedB w wr p bm N M))
    case atStart => exact ⟨0, [], rfl, by omega, ⟨fun x hx => (by cases hx)⟩, H2⟩
    case round =>
      clear H2
      obtain ⟨i, M, rfl, hi, HP, HL⟩ := hrel
      by_cases hlt : i < hs.length
      · have hlt' : (i : Int) < (hs.length : Int) := by omega
        obtain ⟨ad, rfl, x0⟩ := Kd.at_int (Kd.C_below HR1.out HL.out.below) i (by omega) hlt'
        simp only [Int.toNat_natCast] at x0
        generalize rd hs i = y at x0
        have e1 : wrap64 (100 + (i : Int)) = 100 + i := by unfold wrap64; omega
        obtain ⟨t, et, t0, t1⟩ := bmod y 30 (by omega) (by omega)
        go_wp2_with fail
        refine (grant_lit w wr p bm N M (100 + i) [t] HL.out (by omega) (by simp)).mono ?_
        rintro e w3 ⟨rfl, h, _⟩
        have HL3 := Aside0.mk h
        have HP3 := Aside0.mk (HP.out.grant (bud := N) (o := 100 + i) (cs := [t]) (by omega))
        clear h x0 e1 et
        generalize grantE N M (100 + i) [t] = er
        generalize grantM N M (100 + i) [t] = M3 at HL3 HP3
        go_wp2_with fail
        go_roundg (gk - 1)
        case measure => omega
        case rel => exact ⟨i + 1, M3, by go_num, by omega, HP3, HL3⟩
      · clear hi
        go_wp2_with fail
        refine (all_calls p bm N M wr HL.out.is HL.out.ok).mono ?_
        rintro e w3 ⟨v, rfl, hR, hb⟩
        have H3 := Aside0.mk (HL.out.next hb)
        obtain ⟨Aw, cw, rfl⟩ := Kd.R_slice hR
        have HCW := Aside0.mk (Kd.R_reads' hR).2.2
        have HAW : Aside0 (∀ k, AtB Aw k → bm < k ∧ k < w3.heap.size) := ⟨fun k hk => by
          have h1 := R_at_ge hR k hk
          have h2 := HL.out.bm_lt
          exact ⟨by omega, h1.2⟩⟩
        have HAL : Aside0 ((allF M).length ≤ 100000) := ⟨by
          unfold allF
          rw [List.length_map, asc_len, List.length_map]
          exact HL.out.ok.len⟩
        clear hR hb HL hlt
        go_wp2_with fail
        go_loopg [11, 12, 13, 14, 15] ws.length (fun kq v11 v12 v13 v14 v15 wr => ∃ (i : Nat), v13 = .int .i64 i ∧ v12 = .bool (freeB M ((ws.take i).map wm)) ∧ i + kq = ws.length ∧ Aside0 (Kd.R (Kd.int .i64) 3 wr w3.heap.size (fun k => w3.heap.size ≤ k) v11 ((ws.take i).map wm)) ∧ Aside0 (Below w3.heap.size w3 wr))
        case atStart => exact ⟨0, rfl, rfl, by omega, ⟨Kd.R_nil _ _ _ _ _⟩, ⟨Below.refl _ _⟩⟩
        case round =>
          obtain ⟨i, rfl, rfl, hi, HO, HB⟩ := hrel
          obtain ⟨Ac, cc, rfl⟩ := Kd.R_slice HO.out
          have H4 := Aside0.mk (H3.out.next HB.out)
          by_cases hlt : i < ws.length
          · have hlt' : (i : Int) < (ws.length : Int) := by omega
            obtain ⟨ad, rfl, x0⟩ := Kd.at_int (Kd.C_below HR2.out H4.out.below) i (by omega) hlt'
            simp only [Int.toNat_natCast] at x0
            have HT : Aside0 ((ws.take (i + 1)).map wm = (ws.take i).map wm ++ [wm (rd ws i)]) := ⟨by
              rw [List.take_succ_eq_append_getElem hlt, List.map_append]
              have : rd ws (i : Int) = ws[i] := by simp [rd, hlt]
              rw [this]
              rfl⟩
            have hyl : ((ws.take i).map wm).length = i := by rw [List.length_map, List.length_take]; omega
            have HYL := Aside0.mk hyl
            generalize rd ws i = y at x0 HT
            obtain ⟨c, et⟩ : ∃ c, wm y = c := ⟨_, rfl⟩
            have hcb : 0 ≤ c ∧ c < 30 := by rw [← et]; exact wm_b y
            rw [et] at HT
            have et' : (wrap64 (y.tmod 30 + 30)).tmod 30 = c := et
            clear et
            have HFS : Aside0 (freeB M ((ws.take i).map wm ++ [c]) = ((freeB M ((ws.take i).map wm) && (get M c == 0)) && ((ws.take i).map wm).all (fun x => x != c))) := ⟨freeB_snoc hcb⟩
            have HCC := Aside0.mk (Kd.R_reads' HO.out).2.2
            rw [hyl] at HCC ⊢
            clear hyl
            generalize (ws.take i).map wm = ys at HO HT HYL HFS HCC ⊢
            have HQ52 := Aside0.mk (order_calls p bm N M c wr H4.out.is)
            generalize freeB M ys = fb at HFS ⊢
            go_upto_region 17 with fail
            go_cut [12] (fun v12 wx => v12 = .bool (fb && (get M c == 0)) ∧ Aside0 (wx = wr))
            case first =>
              cases fb with
              | false =>
                go_wp2_with fail
                go_meet
                case rel => exact ⟨rfl, ⟨rfl⟩⟩
              | true =>
                go_wp2_with fail
                refine HQ52.out.mono ?_
                rintro e w' ⟨rfl, rfl⟩
                go_wp2_with fail
                go_meet
                case rel => exact ⟨by simp, ⟨rfl⟩⟩
            case rest =>
              obtain ⟨rfl, HW⟩ := hcut
              obtain rfl := HW.out
              clear HQ52 x0
              generalize (fb && (get M c == 0)) = fc at HFS ⊢
              go_wp2_with fail
              go_loopg [12, 15] i (fun kq v12 v15 wr => ∃ (m : Nat), v15 = .int .i64 m ∧ v12 = .bool (fc && (ys.take m).all (fun x => x != c)) ∧ m + kq = i ∧ Aside0 (wr = wc))
              case atStart => exact ⟨0, rfl, by simp, by omega, ⟨rfl⟩⟩
              case round =>
                obtain ⟨m, rfl, rfl, hm, HW2⟩ := hrel
                obtain rfl := HW2.out
                by_cases hmi : m < i
                · have hmi' : (m : Int) < (i : Int) := by omega
                  obtain ⟨adc, rfl, z0⟩ := Kd.at_int HCC.out m (by omega) hmi'
                  simp only [Int.toNat_natCast] at z0
                  have hml : m < ys.length := by rw [HYL.out]; exact hmi
                  have HTK : Aside0 ((ys.take (m + 1)).all (fun x => x != c) = ((ys.take m).all (fun x => x != c) && (rd ys m != c))) := ⟨by
                    rw [List.take_succ_eq_append_getElem hml, List.all_append]
                    have : rd ys (m : Int) = ys[m] := by simp [rd, hml]
                    rw [this]
                    simp⟩
                  generalize rd ys (m : Int) = z at z0 HTK
                  generalize (ys.take m).all (fun x => x != c) = al at HTK ⊢
                  clear hml
                  obtain ⟨bb, hbb⟩ : ∃ bb, (fc && al) = bb := ⟨_, rfl⟩
                  have HBB : Aside0 ((fc && (al && (z != c))) = (bb && (z != c))) := ⟨by rw [← hbb, Bool.and_assoc]⟩
                  rw [hbb]
                  clear hbb
                  cases bb with
                  | false =>
                    go_wp2_with fail
                    go_roundg (i - (m + 1))
                    case measure => omega
                    case rel => exact ⟨m + 1, by go_num, by rw [HTK.out, HBB.out]; rfl, by omega, ⟨rfl⟩⟩
                  | true =>
                    go_wp2_with fail
                    go_roundg (i - (m + 1))
                    case measure => omega
                    case rel => exact ⟨m + 1, by go_num, by rw [HTK.out, HBB.out, Bool.true_and], by omega, ⟨rfl⟩⟩
                · have HTA : Aside0 ((fc && (ys.take m).all (fun x => x != c)) = freeB M (ys ++ [c])) := ⟨by rw [HFS.out, List.take_of_length_le (by rw [HYL.out]; omega)]⟩
                  rw [HTA.out]
                  have HO2 : Aside0 (Kd.R (Kd.int .i64) 3 wr w3.heap.size (fun k => w3.heap.size ≤ k) (.slice Ac i cc) ys) := ⟨by have := HO.out; rwa [HYL.out] at this⟩
                  go_wp2_with ((with_reducible refine gate_builtin (b := .append) (xs := #[.tmp 103, .tmp 105]) rfl ?_); at_builtin; refine Kd.R_append (Kd.int .i64) (w0 := w3) w3.heap.size rfl (.tmp 103) (.tmp 105) 22 3 (.int .i64 0) 8 rfl Try.underlying22 info3 rfl (by decide) (by decide) (.slice Ac i cc) ys c [.int .i64 c] (fun k => w3.heap.size ≤ k) (fun _ => False) rfl rfl ?aP (fun _ hk => hk.elim) ?aF ?aO ?aB ?aS ?aL ?_; (case aP => exact rfl); (case aF => exact fun k hk => Nat.le_trans HB.out.size hk); (case aO => exact HO2.out); (case aB => exact HB.out); (case aS => exact HB.out.size); (case aL => have := HYL.out; omega); intro v5 w5 ho hb5 hg hat; have HO5 := Aside0.mk ho; have HB5 := Aside0.mk hb5; clear ho hb5 hg hat)
                  rw [← HT.out] at HO5 ⊢
                  go_wp2_with fail
                  go_roundg (ws.length - (i + 1))
                  case measure => omega
                  case rel => exact ⟨i + 1, by go_num, rfl, by omega, HO5, HB5⟩
          · have hcs : (ws.take i).map wm = ws.map wm := by rw [List.take_of_length_le (by omega)]
            rw [hcs] at HO ⊢
            obtain ⟨cs, hcd⟩ : ∃ cs, ws.map wm = cs := ⟨_, rfl⟩
            have hcl : cs.length ≤ 30 := by rw [← hcd, List.length_map]; omega
            have hcr : ∀ c ∈ cs, 0 ≤ c ∧ c < 30 := fun c hc => by
              rw [← hcd] at hc
              obtain ⟨y, _, rfl⟩ := List.mem_map.1 hc
              exact wm_b y
            rw [hcd] at HO ⊢
            clear hcd hcs
            have HCS := Aside0.mk (Kd.R_reads' HO.out).2.2
            have HCP := Aside0.mk (Kd.R_reads' HO.out).2.1
            have HAC : Aside0 (∀ k, AtB Ac k → k ≠ bm) := ⟨fun k hk => by have := R_at_ge HO.out k hk; have := H3.out.bm_lt; omega⟩
            have HW := Aside0.mk (want (bud := N) (cs := cs) HP.out hcr hcl)
            have HML := Aside0.mk H4.out.ok.len
            clear hcr
            go_wp2_with fail
            refine (left_calls p bm N M wr H4.out.is (by omega) H4.out.ok.len).mono ?_
            rintro e w4 ⟨rfl, hb⟩
            have H5 := Aside0.mk (H4.out.next hb)
            have HCS5 := Aside0.mk (Kd.C_below HCS.out hb)
            have HCW4 := Aside0.mk (Kd.C_below (Kd.C_below HCW.out HB.out) hb)
            clear hb hlt hi
            go_wp2_with fail
            refine (grant_in w w4 p bm N M 500 Ac cc cs H5.out HCS5.out HCP.out HAC.out (by omega) (by omega)).mono ?_
            rintro e w5 ⟨rfl, h, hf⟩
            rcases HW.out with ⟨hE, hF, hM⟩ | ⟨hE, hF, hS, hM⟩ | ⟨hE, hF, hM, hn, hL⟩
            · rw [hM] at h
              rw [hE, hF]
              have H6 := Aside0.mk h
              have HCW5 := Aside0.mk (C85_fr1 HCW4.out hf (fun k hk => by have := HAW.out k hk; omega))
              clear h hf hE hF hM HW
              go_wp2_with fail
              refine (all_calls p bm N M w5 H6.out.is H6.out.ok).mono ?_
              rintro e w6 ⟨v, rfl, hR, hb⟩
              have H7 := Aside0.mk (H6.out.next hb)
              have HCW6 := Aside0.mk (Kd.C_below HCW5.out hb)
              obtain ⟨An, cn, rfl⟩ := Kd.R_slice hR
              have HCN := Aside0.mk (Kd.R_reads' hR).2.2
              clear hR hb
              go_wp2_with fail
              go_loopg [19] (allF M).length (fun kq v19 wr => ∃ j : Nat, v19 = .int .i64 j ∧ j + kq = (allF M).length ∧ Aside0 (Below w6.heap.size w6 wr))
              case atStart => exact ⟨0, rfl, by omega, ⟨Below.refl _ _⟩⟩
              case round =>
                obtain ⟨j, rfl, hj, HBB⟩ := hrel
                have hal := HAL.out
                by_cases hjl : j < (allF M).length
                · have hjl' : (j : Int) < ((allF M).length : Int) := by omega
                  obtain ⟨adn, rfl, y0, y1⟩ := at_T85 (Kd.C_below HCN.out HBB.out) j (by omega) hjl'
                  obtain ⟨adw, rfl, z0, z1⟩ := at_T85 (Kd.C_below HCW6.out HBB.out) j (by omega) hjl'
                  simp only [Int.toNat_natCast] at y0 y1 z0 z1
                  generalize rd_T85 (allF M) j = x at y0 y1 z0 z1
                  obtain ⟨f0, f1⟩ := x
                  simp only at y0 y1 z0 z1
                  go_wp2_with fail
                  go_quiet (fail)
                  go_wp2_with fail
                  go_roundg (gk - 1)
                  case measure => omega
                  case rel => exact ⟨j + 1, by go_num, by omega, ⟨by first | exact pw_below_drewN HBB.out _ | exact HBB.out⟩⟩
                · go_wp2_with fail
                  go_ret
                  exact ⟨rfl, H7.out.below.trans (HBB.out.mono H7.out.below.size)⟩
            · rw [hM] at h
              rw [hE, hF]
              have H6 := Aside0.mk h
              have HCW5 := Aside0.mk (C85_fr1 HCW4.out hf (fun k hk => by have := HAW.out k hk; omega))
              have hsp : decide ((cs.length : Int) ≤ N - (M.length : Int)) = false := decide_eq_false (by omega)
              clear h hf hE hF hM HW
              go_wp2_with fail
              refine (all_calls p bm N M w5 H6.out.is H6.out.ok).mono ?_
              rintro e w6 ⟨v, rfl, hR, hb⟩
              have H7 := Aside0.mk (H6.out.next hb)
              have HCW6 := Aside0.mk (Kd.C_below HCW5.out hb)
              obtain ⟨An, cn, rfl⟩ := Kd.R_slice hR
              have HCN := Aside0.mk (Kd.R_reads' hR).2.2
              clear hR hb
              go_wp2_with fail
              go_loopg [19] (allF M).length (fun kq v19 wr => ∃ j : Nat, v19 = .int .i64 j ∧ j + kq = (allF M).length ∧ Aside0 (Below w6.heap.size w6 wr))
              case atStart => exact ⟨0, rfl, by omega, ⟨Below.refl _ _⟩⟩
              case round =>
                obtain ⟨j, rfl, hj, HBB⟩ := hrel
                have hal := HAL.out
                by_cases hjl : j < (allF M).length
                · have hjl' : (j : Int) < ((allF M).length : Int) := by omega
                  obtain ⟨adn, rfl, y0, y1⟩ := at_T85 (Kd.C_below HCN.out HBB.out) j (by omega) hjl'
                  obtain ⟨adw, rfl, z0, z1⟩ := at_T85 (Kd.C_below HCW6.out HBB.out) j (by omega) hjl'
                  simp only [Int.toNat_natCast] at y0 y1 z0 z1
                  generalize rd_T85 (allF M) j = x at y0 y1 z0 z1
                  obtain ⟨f0, f1⟩ := x
                  simp only at y0 y1 z0 z1
                  go_wp2_with fail
                  go_quiet (fail)
                  go_wp2_with fail
                  go_roundg (gk - 1)
                  case measure => omega
                  case rel => exact ⟨j + 1, by go_num, by omega, ⟨by first | exact pw_below_drewN HBB.out _ | exact HBB.out⟩⟩
                · go_wp2_with fail
                  go_ret
                  exact ⟨rfl, H7.out.below.trans (HBB.out.mono H7.out.below.size)⟩
            · have HCS6 := Aside0.mk (C_fr1 HCS5.out hf HAC.out)
              rw [hM] at h
              rw [hE, hF]
              have H6 := Aside0.mk h
              have HNL := Aside0.mk (And.intro hn hL)
              clear h hf hE hF hM HW hn hL
              go_wp2_with fail
              go_loopg [20] cs.length (fun kq v20 wr => ∃ j : Nat, v20 = .int .i64 j ∧ j + kq = cs.length ∧ Aside0 (Below w5.heap.size w5 wr))
              case atStart => exact ⟨0, rfl, by omega, ⟨Below.refl _ _⟩⟩
              case round =>
                obtain ⟨j, rfl, hj, HBB⟩ := hrel
                have H7 := Aside0.mk (H6.out.next HBB.out)
                by_cases hjl : j < cs.length
                · have hjl' : (j : Int) < (cs.length : Int) := by omega
                  obtain ⟨adc, rfl, z0⟩ := Kd.at_int (Kd.C_below HCS6.out HBB.out) j (by omega) hjl'
                  simp only [Int.toNat_natCast] at z0
                  have HG : Aside0 (get (giveF 500 0 cs M) (rd cs (j : Int)) = 500 + j) := ⟨by
                    have er : rd cs (j : Int) = cs[j] := by simp [rd, hjl]
                    rw [er, give_at hjl HNL.out.1]
                    omega⟩
                  have e5 : wrap64 (500 + (j : Int)) = 500 + j := by unfold wrap64; omega
                  generalize rd cs (j : Int) = c at z0 HG
                  go_wp2_with fail
                  refine (order_calls p bm N _ c wr H7.out.is).mono ?_
                  rintro e w6 ⟨rfl, rfl⟩
                  rw [HG.out]
                  go_wp2_with fail
                  go_roundg (gk - 1)
                  case measure => omega
                  case rel => exact ⟨j + 1, by go_num, by omega, HBB⟩
                · go_wp2_with fail
                  have hml := HML.out
                  have hL := HNL.out.2
                  refine (left_calls p bm N _ wr H7.out.is (by omega) H7.out.ok.len).mono ?_
                  rintro e w6 ⟨rfl, hb⟩
                  rw [hL, show N - ((M.length + cs.length : Nat) : Int) = N - (M.length : Int) - (cs.length : Int) by omega]
                  have e6 : wrap64 (N - (M.length : Int) - (cs.length : Int)) = N - (M.length : Int) - (cs.length : Int) := by unfold wrap64; omega
                  have H8 := Aside0.mk (H7.out.next hb)
                  clear hb hL
                  go_wp2_with fail
                  go_ret
                  exact ⟨by simp, H8.out.below⟩
end Go.Proofs.Ytnkpleggmiamdaa.Le
