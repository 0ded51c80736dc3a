/- WaveOrders, walked. -/
import Derived.Test.YtkeadpichlgagaaWrA
import Derived.Test.YtkeadpichlgagaaWvT
namespace Go.Proofs.Ytkeadpichlgagaa.Wv
open Go.RowKit Go.Maps Go.Proofs.YtkeadpichlgagaaW.PrintWords Go.Proofs.YtkeadpichlgagaaW.PrintLast Go.Proofs.YtkeadpichlgagaaW.PrintMore
open Go.Proofs.Ytkeadpichlgagaa.PWaveReady Go.Proofs.Ytkeadpichlgagaa.Mp
set_option linter.unusedVariables false
set_option linter.unusedSimpArgs false
set_option linter.unnecessarySimpa false

theorem level_at {G : Gr} (hz : Gsz G) (ht : Rt G) {x : Int} (h0 : 0 ≤ x) (h1 : x < G.length) : ∃ k, Go.Proofs.Ytkeadpichlgagaa.PWaveOrders.echelonref14_Level.f k G x = some (lev G x) := by
  obtain ⟨i, hi, rfl⟩ := List.getElem_of_mem (ht.mem h0 h1)
  exact (level_ev G (by have := hz.n; omega) (fun y hy => by have := hz.rows y hy; omega) i hi).rounds
theorem take_row {G : Gr} {i : Nat} (h : i < G.length) : G.take (i + 1) = G.take i ++ [row G (i : Int)] := by
  rw [List.take_succ_eq_append_getElem h, row_at G h]

set_option maxHeartbeats 4000000 in
set_option maxRecDepth 100000 in
theorem orders_law (A : Option Addr) (c : Nat) (G : Gr) (w : World) (hr : GC w A G) (hc : G.length ≤ c) (hN : G.length ≤ 9223372036854775806) (hw : ∀ y : Nat, y < G.length → (row G (y : Int)).length ≤ 1000000000000000) :
    Calls Try.prog 3 #[.slice A G.length c] w fun e w' => e = .returned (.bool true) ∧ Below w.heap.size w w' := by
  have HR := Aside0.mk hr
  have HW := Aside0.mk (And.intro hN hw)
  clear hr hN hw
  go_enter Try.func3, Try.ntmps3
  go_wp2_with fail
  refine (awake_calls _).mono ?_
  rintro e w1 ⟨rfl, hb⟩
  have HB1 := Aside0.mk hb
  clear hb
  go_wp2_with fail
  refine (small_calls A c G w1 (Kd.C_below HR.out HB1.out) hc HW.out.1 HW.out.2).mono ?_
  rintro e w2 ⟨rfl, hb⟩
  have HB2 := Aside0.mk (HB1.out.trans (hb.mono HB1.out.size))
  clear hb HB1
  cases hsm : smallB G with
  | false =>
    clear hsm
    go_wp2_with fail
    refine (awake_calls _).mono ?_
    rintro e w3 ⟨rfl, hb⟩
    have HB3 := Aside0.mk (HB2.out.trans (hb.mono HB2.out.size))
    clear hb
    go_wp2_with fail
    go_ret
    exact ⟨rfl, HB3.out⟩
  | true =>
    have HS := Aside0.mk (sml_of hsm)
    clear hsm
    have hn12 := HS.out.n
    obtain ⟨N, hNN⟩ : ∃ N, G.length = N := ⟨_, rfl⟩
    have HNN := Aside0.mk hNN
    rw [hNN] at hc hn12 ⊢
    clear hNN
    go_wp2_with fail
    go_loopg [3, 4] N (fun kq v3 v4 wr => ∃ (i : Nat), v4 = .int .i64 i ∧ i + kq = N ∧ Aside0 ((Kd.slice 3 (Kd.int .i64)).R 25 wr w2.heap.size (fun k => w2.heap.size ≤ k) v3 (G.take i)) ∧ Aside0 (Below w2.heap.size w2 wr))
    case atStart => exact ⟨0, rfl, by omega, ⟨by rw [List.take_zero]; exact Kd.R_nil _ _ _ _ _⟩, ⟨Below.refl _ _⟩⟩
    case round =>
      obtain ⟨i, rfl, hi, HIN, HBL⟩ := hrel
      by_cases hlt : i < N
      · have hlt' : (i : Int) < (N : Int) := by omega
        have HBW := Aside0.mk (HB2.out.trans (HBL.out.mono HB2.out.size))
        have HRW := Aside0.mk (Kd.C_below HR.out HBW.out)
        obtain ⟨adr, A1, c1, ear, y0, hcap, hC1⟩ := at_L1 HRW.out i (by omega) (by rw [HNN.out]; exact hlt')
        subst ear
        rw [rd_row] at y0 hcap hC1
        simp only [Int.toNat_natCast] at y0
        have HC1 := Aside0.mk hC1
        have HRL := HS.out.rows i (by rw [HNN.out]; exact hlt)
        have HTK := Aside0.mk (take_row (G := G) (i := i) (by rw [HNN.out]; exact hlt))
        have hxl : (G.take i).length ≤ 12 := Nat.le_trans (List.length_take_le _ _) (by omega)
        obtain ⟨rl, hrl⟩ : ∃ rl, row G (i : Int) = rl := ⟨_, rfl⟩
        rw [hrl] at y0 hcap HC1 HRL HTK
        clear hC1 hrl
        obtain ⟨xs, hxs⟩ : ∃ xs, G.take i = xs := ⟨_, rfl⟩
        rw [hxs] at HIN HTK hxl
        clear hxs
        have HE := Aside0.mk (Kd.R_of_own (α := Int) (enc := Value.int .i64) (h1 := fun _ => rfl) (ok := fun k => wr.heap.size ≤ k) (xs := []) (World.ownsRow_made (e := 3) (size := 1) wr #[] 0 (Nat.le_refl wr.heap.size) (by decide) rfl) (fun k hk => by
          have : wr.heap.size = k := by simpa [Value.ownBlock] using hk
          omega))
        have HBE : Aside0 (Below wr.heap.size wr (wr.alloc (.cells #[] 3))) := ⟨below_alloc (Below.refl _ _) _⟩
        have y1 := (HBE.out.cell (cell_lt y0)).trans y0
        go_wp2_with (first | ((with_reducible refine gate_builtin (b := .append) (xs := #[.tmp 28, .tmp 32]) rfl ?_); at_builtin; refine Kd.R_append_row (Value.int .i64) 0 (w0 := wr) wr.heap.size rfl (.tmp 28) (.tmp 32) 25 3 (.int .i64 0) 8 rfl Try.underlying25 info3 rfl (by decide) (.slice (some ⟨wr.heap.size, 0, none⟩) 0 0) [] rl A1 rl.length c1 (fun k => wr.heap.size ≤ k) rfl rfl (fun k hk => Nat.le_trans HBE.out.size hk) HE.out (Kd.C_below HC1.out HBE.out) HBE.out HBE.out.size (by simp; omega) ?_; intro v5 w5 ho5 hb5 hg5 hat5; rw [List.nil_append] at ho5; obtain ⟨A5, c5, ev5⟩ := Kd.R_slice ho5; subst ev5; have HO5 := Aside0.mk ho5; have HB5 := Aside0.mk hb5; clear ho5 hb5 hg5 hat5 HE HBE y1) | ((with_reducible refine gate_builtin (b := .append) (xs := #[.tmp 27, .tmp 34]) rfl ?_); at_builtin; refine Kd.R_append (Kd.slice 3 (Kd.int .i64)) (w0 := w5) w2.heap.size rfl (.tmp 27) (.tmp 34) 22 25 (.slice none 0 0) 24 rfl Try.underlying22 info25 rfl (by decide) (by decide) u3 xs rl [.slice A5 rl.length c5] (fun k => w2.heap.size ≤ k) (fun k => (Value.slice A5 rl.length c5).ownBlock = some k) rfl rfl ?bP ?bK ?bF ?bO ?bB ?bS ?bL ?_; (case bP => exact ⟨.slice A5 rl.length c5, rfl, Kd.R_flat (fun h => h) (Kd.R_lower HO5.out HBL.out.size) (fun k hk _ => hk)⟩); (case bK => exact fun k hk => ⟨by have := HO5.out.1 k hk; have := HBL.out.size; omega, fun e => by have := HO5.out.1 k hk; have := Kd.R_lt HIN.out k e.symm; omega⟩); (case bF => exact fun k hk => by have := HBL.out.size; have := HB5.out.size; omega); (case bO => exact Kd.R_below HIN.out HB5.out); (case bB => exact Below.refl _ _); (case bS => exact Nat.le_trans HBL.out.size HB5.out.size); (case bL => omega); intro v6 w6 ho6 hb6 hg6 hat6; have HO6 := Aside0.mk ho6; have HB6 := Aside0.mk hb6; clear ho6 hb6 hg6 hat6))
        have HBL6 := Aside0.mk (HBL.out.trans ((HB5.out.mono HBL.out.size).trans HB6.out))
        rw [← HTK.out] at HO6
        go_roundg (N - (i + 1))
        case measure => omega
        case rel => exact ⟨i + 1, by go_num, by omega, HO6, HBL6⟩
      · have hin := HIN.out
        have hiN : i = N := by omega
        subst hiN
        rw [List.take_of_length_le (by rw [HNN.out]; exact Nat.le_refl _)] at hin
        obtain ⟨A3, c3, e3⟩ := Kd.R_slice hin
        rw [HNN.out] at e3
        subst e3
        have HX := Aside0.mk (Kd.R_reads' hin)
        have HBW := Aside0.mk (HB2.out.trans (HBL.out.mono HB2.out.size))
        clear hin HIN hlt hi
        have hc3 : i ≤ c3 := HX.out.2.1
        go_wp2_with fail
        have C := worder_calls A3 c3 G wr HX.out.2.2 (by rw [HNN.out]; exact hc3) HS.out.sz
        rw [HNN.out, ordR_snd] at C
        refine C.mono ?_
        clear C
        rintro e w3 ⟨v7, rfl, hv, hb⟩
        have HV7 := Aside0.mk hv
        have HB3 := Aside0.mk hb
        clear hv hb
        go_wp2_with fail
        have C := levels_calls A3 c3 G w3 (Kd.C_below HX.out.2.2 HB3.out) (by rw [HNN.out]; exact hc3) HS.out.sz
        rw [HNN.out] at C
        refine C.mono ?_
        clear C
        rintro e w4 ⟨v8, rfl, hv, hb⟩
        have HV8 := Aside0.mk hv
        replace HV7 := Aside0.mk (Kd.R_below HV7.out hb)
        have HB4 := Aside0.mk (HB3.out.trans (hb.mono HB3.out.size))
        clear hv hb HB3
        go_wp2_with fail
        have C := rorder_calls A c G w4 (Kd.C_below HR.out (HBW.out.trans (HB4.out.mono HBW.out.size))) (by rw [HNN.out]; exact hc) HS.out.sz
        rw [HNN.out] at C
        refine C.mono ?_
        clear C
        rintro e w5 ⟨v9, rfl, hv, hb⟩
        have HV9 := Aside0.mk hv
        replace HV7 := Aside0.mk (Kd.R_below HV7.out hb)
        replace HV8 := Aside0.mk (Kd.R_below HV8.out hb)
        have HB5 := Aside0.mk (HB4.out.trans (hb.mono HB4.out.size))
        have HBX := Aside0.mk (HBW.out.trans (HB5.out.mono HBW.out.size))
        clear hv hb HB4
        obtain ⟨A7, c7, rfl⟩ := Kd.R_slice HV7.out
        obtain ⟨A8, c8, rfl⟩ := Kd.R_slice HV8.out
        obtain ⟨A9, c9, rfl⟩ := Kd.R_slice HV9.out
        go_wp2_with fail
        go_loopg [11] i (fun kq v11 wq => ∃ (j : Nat), v11 = .int .i64 j ∧ j + kq = i ∧ Aside0 (Below w5.heap.size w5 wq))
        case atStart => exact ⟨0, rfl, by omega, ⟨Below.refl _ _⟩⟩
        case round =>
          obtain ⟨j, rfl, hj, HBQ⟩ := hrel
          by_cases hjl : j < i
          · have hjl' : (j : Int) < (i : Int) := by omega
            have HRW := Aside0.mk (Kd.C_below HR.out (HBX.out.trans (HBQ.out.mono HBX.out.size)))
            obtain ⟨adr, A1, c1, ear, y0, hcap, hC1⟩ := at_L1 HRW.out j (by omega) (by rw [HNN.out]; exact hjl')
            subst ear
            obtain ⟨ad3, A31, c31, ea3, z0, hcap3, hC31⟩ := at_L1 (Kd.C_below HX.out.2.2 (HB5.out.trans (HBQ.out.mono HB5.out.size))) j (by omega) (by rw [HNN.out]; exact hjl')
            subst ea3
            rw [rd_row] at y0 hcap hC1 z0 hcap3 hC31
            simp only [Int.toNat_natCast] at y0 z0
            have HC1 := Aside0.mk hC1
            have HC31 := Aside0.mk hC31
            have HRL := HS.out.rows j (by rw [HNN.out]; exact hjl)
            generalize row G (j : Int) = rl at y0 hcap HC1 z0 hcap3 HC31 HRL
            obtain ⟨kk, hkk⟩ := (ints_ev rl rl (by omega)).rounds
            rw [show decide (rl = rl) = true from decide_eq_true rfl] at hkk
            have HKK := Aside0.mk hkk
            clear hkk hC1 hC31
            go_wp2_with fail
            go_quiet ((go_at_call 21; exact Calls.quiet_of ((echelonlaw14_ints.calls kk A31 c31 rl A1 c1 rl true _ (Kd.C_drewN HC31.out _) hcap3 (Kd.C_drewN HC1.out _) hcap HKK.out).mono fun e w' ⟨he, hd⟩ => ⟨he, hd.out⟩)))
            go_wp2_with fail
            go_roundg (i - (j + 1))
            case measure => omega
            case rel => exact ⟨j + 1, by go_num, by omega, ⟨by first | exact pw_below_drewN HBQ.out _ | exact HBQ.out⟩⟩
          · clear hj
            have hl9 : (ordR G).1.length ≤ 12 := by
              unfold ordR
              have := ordA_len G
              have := HNN.out
              split
              · show (ordA G).length ≤ 12; omega
              · simp
            have HBY := Aside0.mk (HBX.out.trans (HBQ.out.mono HBX.out.size))
            go_wp2_with fail
            have C := right_calls A3 c3 G wr (Kd.C_below HX.out.2.2 (HB5.out.trans (HBQ.out.mono HB5.out.size))) (by rw [HNN.out]; exact hc3) HS.out.sz
            rw [HNN.out] at C
            refine C.mono ?_
            clear C
            rintro e w6 ⟨rfl, hb⟩
            have HB6 := Aside0.mk (HBQ.out.trans (hb.mono HBQ.out.size))
            clear hb
            have HX7 := Aside0.mk (Kd.R_reads' (Kd.R_below HV7.out HB6.out))
            have HX9 := Aside0.mk (Kd.R_reads' (Kd.R_below HV9.out HB6.out))
            go_wp2_with fail
            refine (ints_calls A7 c7 (ordR G).1 A9 c9 (ordR G).1 w6 HX7.out.2.2 HX7.out.2.1 HX9.out.2.2 HX9.out.2.1 (by omega)).mono ?_
            rintro e w7 ⟨rfl, hb⟩
            rw [show decide ((ordR G).1 = (ordR G).1) = true from decide_eq_true rfl]
            have HB7 := Aside0.mk (HB6.out.trans (hb.mono HB6.out.size))
            clear hb HX7 HX9 HB6
            by_cases h0 : ordE G = 0
            · have HRT := Aside0.mk (rt_of h0)
              have hlr : levR G = levA G := by unfold levR; rw [if_pos h0]
              have HLA := Aside0.mk (levA_at HRT.out)
              have hll : (levA G).length = i := by rw [HLA.out.1, HNN.out]
              have HX8 := Kd.R_reads' (Kd.R_below HV8.out HB7.out)
              rw [hlr, hll] at HX8
              rw [hlr, hll, h0]
              have HX8 := Aside0.mk HX8
              clear h0 hlr hll
              go_wp2_with fail
              go_loopg [12] i (fun kq v12 wq => ∃ (j : Nat), v12 = .int .i64 j ∧ j + kq = i ∧ Aside0 (Below w7.heap.size w7 wq))
              case atStart => exact ⟨0, rfl, by omega, ⟨Below.refl _ _⟩⟩
              case round =>
                obtain ⟨j, rfl, hj, HBZ⟩ := hrel
                by_cases hjl : j < i
                · have hjl' : (j : Int) < (i : Int) := by omega
                  have HRW := Aside0.mk (Kd.C_below HR.out (HBX.out.trans ((HB7.out.trans (HBZ.out.mono HB7.out.size)).mono HBX.out.size)))
                  obtain ⟨ad8, ea8, y0⟩ := Kd.at_int (Kd.C_below HX8.out.2.2 HBZ.out) j (by omega) hjl'
                  subst ea8
                  simp only [Int.toNat_natCast] at y0
                  have er : rd (levA G) (j : Int) = lev G (j : Int) := by
                    unfold rd
                    exact HLA.out.2 (j : Int) (by omega) (by rw [HNN.out]; exact hjl')
                  rw [er] at y0
                  obtain ⟨kk, hkk⟩ := level_at HS.out.sz HRT.out (x := (j : Int)) (by omega) (by rw [HNN.out]; exact hjl')
                  have HKK := Aside0.mk hkk
                  clear er hkk
                  generalize lev G (j : Int) = lv at y0 HKK
                  have HLC : Aside0 (∀ m, Calls Try.prog 23 #[.slice A i c, .int .i64 (j : Int)] (wr.drewN m) (fun e w' => e = .returned (.int .i64 lv) ∧ ∃ n, w' = (wr.drewN m).drewN n)) := ⟨fun m => by
                    have C := Go.Proofs.Ytkeadpichlgagaa.PWaveOrders.echelonref14_Level.calls kk A c G (j : Int) lv (wr.drewN m) (Kd.C_drewN HRW.out m) (by rw [HNN.out]; exact hc) HKK.out
                    rw [HNN.out] at C
                    exact C.mono fun e w' ⟨he, hd⟩ => ⟨he, hd.out⟩⟩
                  go_wp2_with fail
                  go_quiet ((go_at_call 23; exact Calls.quiet_of (HLC.out _)))
                  go_wp2_with fail
                  go_roundg (i - (j + 1))
                  case measure => omega
                  case rel => exact ⟨j + 1, by go_num, by omega, ⟨by first | exact pw_below_drewN HBZ.out _ | exact HBZ.out⟩⟩
                · clear hj
                  go_wp2_with fail
                  go_ret
                  exact ⟨rfl, HBX.out.trans ((HB7.out.trans (HBZ.out.mono HB7.out.size)).mono HBX.out.size)⟩
            · have hlr : levR G = [] := by unfold levR; rw [if_neg h0]
              have hb2 : (ordE G == 0) = false := by simpa using h0
              have hb3 : (ordE G != 0) = true := by simpa using h0
              rw [hlr]
              clear h0 hlr
              go_wp2_with fail
              go_ret
              exact ⟨rfl, HBX.out.trans (HB7.out.mono HBX.out.size)⟩
end Go.Proofs.Ytkeadpichlgagaa.Wv
