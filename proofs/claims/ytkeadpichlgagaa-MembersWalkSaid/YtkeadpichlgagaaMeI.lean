/- members: the document's Right, walked. -/
import Derived.Test.YtkeadpichlgagaaMeH
namespace Go.Proofs.Ytkeadpichlgagaa.Me
open Go.RowKit Go.Lib Go.Sort Go.Shelf Go.Proofs.YtkeadpichlgagaaW.PrintWords Go.Proofs.YtkeadpichlgagaaW.PrintLast Go.Proofs.YtkeadpichlgagaaW.PrintMore
open Go.Proofs.Ytkeadpichlgagaa.PMembersNext Go.Proofs.Ytkeadpichlgagaa.Mp
set_option linter.unusedVariables false
set_option linter.unusedSimpArgs false
set_option linter.unnecessarySimpa false

theorem bad_of {x : S67} (h : ¬ Rt x) : rtB x = false := by
  cases h2 : rtB x with
  | false => rfl
  | true => exact absurd (rtB_iff.1 h2) h
set_option maxHeartbeats 4000000 in
set_option maxRecDepth 100000 in
theorem refright_calls (A0 A1 : Option Addr) (c0 c1 : Nat) (x : S67) (w : World) (hx : CfR w x A0 c0 A1 c1) (hl0 : x.f0.length ≤ 1000000) (hl1 : x.f1.length ≤ 1000000) :
    Calls Try.prog 51 #[.agg #[.slice A0 x.f0.length c0, .slice A1 x.f1.length c1]] w fun e w' => e = .returned (.bool (rtB x)) ∧ Below w.heap.size w w' := by
  have hu67 := Try.underlying67
  have HX := Aside0.mk hx
  clear hx
  go_enter Try.func51, Try.ntmps51
  go_wp2_with fail
  have HBW : Aside0 (Below w.heap.size w (w.alloc (Obj.cells #[Value.slice A0 x.f0.length c0, Value.slice A1 x.f1.length c1] 67))) := ⟨(Below.refl _ w).alloc (Nat.le_refl _) _⟩
  have K0 := Aside0.mk (grown_new (w := w) #[Value.slice A0 x.f0.length c0, Value.slice A1 x.f1.length c1] 67)
  generalize w.alloc (Obj.cells #[Value.slice A0 x.f0.length c0, Value.slice A1 x.f1.length c1] 67) = w1 at HBW K0 ⊢
  obtain ⟨b0, hb0⟩ : ∃ b, w.heap.size = b := ⟨_, rfl⟩
  rw [hb0] at K0 ⊢
  clear hb0
  have HCF := Aside0.mk (HX.out.below HBW.out)
  go_loopg [3, 4, 5, 6] 2 (fun kq v3 v4 v5 v6 wr => ∃ (k : Nat), v4 = .int .i64 k ∧ k + kq = 2 ∧ v3 = .int .i64 ((if k = 0 then 0 else if k = 1 then x.f0.length else x.f0.length + x.f1.length : Nat) : Int) ∧ Aside0 (0 < k → Ris x.f0) ∧ Aside0 (1 < k → Ris x.f1 ∧ ∀ y ∈ x.f1, y ∉ x.f0) ∧ Aside0 (Below w1.heap.size w1 wr))
  case atStart => exact ⟨0, rfl, by omega, rfl, ⟨fun h => by omega⟩, ⟨fun h => by omega⟩, ⟨Below.refl _ _⟩⟩
  case round =>
    obtain ⟨k, rfl, hk, rfl, HK0, HK1, HB⟩ := hrel
    have a0 := (blk_cell (blk_below K0.out HB.out) 0).trans (show _ = some (Value.slice A0 x.f0.length c0) from rfl)
    have a1 := (blk_cell (blk_below K0.out HB.out) 1).trans (show _ = some (Value.slice A1 x.f1.length c1) from rfl)
    rcases k with _ | _ | k
    · go_wp2_with fail
      go_loopg [3, 6] x.f0.length (fun kq v3 v6 wq => ∃ (i : Nat), v6 = .int .i64 i ∧ v3 = .int .i64 ((0 + i : Nat) : Int) ∧ i + kq = x.f0.length ∧ Aside0 (Ris (x.f0.take i)) ∧ Aside0 (Below wr.heap.size wr wq))
      case atStart => exact ⟨0, rfl, by first | rfl | simp, by omega, ⟨by rw [List.take_zero]; exact Ris.nil⟩, ⟨Below.refl _ _⟩⟩
      case round =>
        obtain ⟨i, rfl, rfl, hi, HI, HBQ⟩ := hrel
        have a0 := (blk_cell (blk_below K0.out (HB.out.trans (HBQ.out.mono HB.out.size))) 0).trans (show _ = some (Value.slice A0 x.f0.length c0) from rfl)
        by_cases hlt : i < x.f0.length
        · have hlt' : (i : Int) < (x.f0.length : Int) := by omega
          have hcf := HCF.out.below (HB.out.trans (HBQ.out.mono HB.out.size))
          obtain ⟨ad, ea, y0⟩ := Kd.at_int hcf.g0 i (by omega) hlt'
          clear hcf
          subst ea
          simp only [Int.toNat_natCast] at y0
          rw [rd_at x.f0 hlt] at y0
          obtain ⟨e, he⟩ : ∃ e, x.f0[i] = e := ⟨_, rfl⟩
          have HE := Aside0.mk he
          rw [he] at y0
          clear he
          by_cases h1 : e < 0
          · have t1 : decide (e < 0) = true := decide_eq_true h1
            have HRR := Aside0.mk (bad_of (x := x) (fun h => by have hb := h.r0.bd _ (List.getElem_mem hlt); rw [HE.out] at hb; omega))
            go_wp2_with fail
            go_big_quiet (fail)
            go_wp2_with fail
            go_ret
            exact ⟨by rw [HRR.out]; rfl, HBW.out.trans ((HB.out.trans ((pw_below_drewN HBQ.out _).mono HB.out.size)).mono HBW.out.size)⟩
          · have t1 : decide (e < 0) = false := decide_eq_false h1
            by_cases h2 : 1048575 < e
            · have t2 : decide (1048575 < e) = true := decide_eq_true h2
              have HRR := Aside0.mk (bad_of (x := x) (fun h => by have hb := h.r0.bd _ (List.getElem_mem hlt); rw [HE.out] at hb; omega))
              go_wp2_with fail
              go_big_quiet (fail)
              go_wp2_with fail
              go_ret
              exact ⟨by rw [HRR.out]; rfl, HBW.out.trans ((HB.out.trans ((pw_below_drewN HBQ.out _).mono HB.out.size)).mono HBW.out.size)⟩
            · have t2 : decide (1048575 < e) = false := decide_eq_false h2
              by_cases h3 : i = 0
              · have t3 : decide (0 < i) = false := decide_eq_false (by omega)
                have t3' : decide ((0 : Int) < (i : Int)) = false := decide_eq_false (by omega)
                have HI2 : Aside0 (Ris (x.f0.take (i + 1))) := ⟨HI.out.snoc hlt (by rw [HE.out]; omega) (by rw [HE.out]; omega) (fun hz => absurd h3 (by omega))⟩
                clear HI h3
                go_wp2_with fail
                go_big_quiet (fail)
                go_wp2_with fail
                go_roundg (x.f0.length - (i + 1))
                case measure => omega
                case rel => exact ⟨i + 1, by go_num, by first | go_num | (simp; omega) | rfl, by omega, HI2, ⟨pw_below_drewN HBQ.out _⟩⟩
              · have t3 : decide (0 < i) = true := decide_eq_true (by omega)
                have t3' : decide ((0 : Int) < (i : Int)) = true := decide_eq_true (by omega)
                have hpos : 0 < i := by omega
                have hlt1 : i - 1 < x.f0.length := by omega
                have hlt1' : ((i - 1 : Nat) : Int) < (x.f0.length : Int) := by omega
                have hcf := HCF.out.below (HB.out.trans (HBQ.out.mono HB.out.size))
                obtain ⟨ad', ea', y1⟩ := Kd.at_int hcf.g0 ((i - 1 : Nat) : Int) (by omega) hlt1'
                injection ea' with ea'
                subst ea'
                clear hcf
                simp only [Int.toNat_natCast] at y1
                rw [rd_at x.f0 hlt1] at y1
                obtain ⟨e', he'⟩ : ∃ e', x.f0[i - 1] = e' := ⟨_, rfl⟩
                have HE' := Aside0.mk he'
                rw [he'] at y1
                clear he'
                by_cases h4 : e ≤ e'
                · have t4 : decide (e ≤ e') = true := decide_eq_true h4
                  have HRR := Aside0.mk (bad_of (x := x) (fun h => by have hu := List.pairwise_iff_getElem.1 h.r0.up (i - 1) i hlt1 hlt (by omega); rw [HE.out, HE'.out] at hu; omega))
                  go_wp2_with fail
                  go_big_quiet (fail)
                  go_wp2_with fail
                  go_ret
                  exact ⟨by rw [HRR.out]; rfl, HBW.out.trans ((HB.out.trans ((pw_below_drewN HBQ.out _).mono HB.out.size)).mono HBW.out.size)⟩
                · have t4 : decide (e ≤ e') = false := decide_eq_false h4
                  have HI2 : Aside0 (Ris (x.f0.take (i + 1))) := ⟨HI.out.snoc hlt (by rw [HE.out]; omega) (by rw [HE.out]; omega) (fun hz => by rw [HE.out, HE'.out]; omega)⟩
                  clear HI h3
                  go_wp2_with fail
                  go_big_quiet (fail)
                  go_wp2_with fail
                  go_roundg (x.f0.length - (i + 1))
                  case measure => omega
                  case rel => exact ⟨i + 1, by go_num, by first | go_num | (simp; omega) | rfl, by omega, HI2, ⟨pw_below_drewN HBQ.out _⟩⟩
        · clear a0
          have HRF : Aside0 (0 < 0 + 1 → Ris x.f0) := ⟨fun _ => by have := HI.out; rwa [List.take_of_length_le (by omega)] at this⟩
          go_wp2_with fail
          go_roundg 1
          case measure => omega
          case rel => exact ⟨0 + 1, by go_num, by omega, by first | rfl | (simp; omega), HRF, ⟨fun h => by omega⟩, ⟨HB.out.trans (HBQ.out.mono HB.out.size)⟩⟩
    · go_wp2_with fail
      go_loopg [3, 6] x.f1.length (fun kq v3 v6 wq => ∃ (i : Nat), v6 = .int .i64 i ∧ v3 = .int .i64 ((x.f0.length + i : Nat) : Int) ∧ i + kq = x.f1.length ∧ Aside0 (Ris (x.f1.take i) ∧ ∀ y ∈ x.f1.take i, y ∉ x.f0) ∧ Aside0 (Below wr.heap.size wr wq))
      case atStart => exact ⟨0, rfl, by first | rfl | simp, by omega, ⟨by rw [List.take_zero]; exact ⟨Ris.nil, fun y hy => (by cases hy)⟩⟩, ⟨Below.refl _ _⟩⟩
      case round =>
        obtain ⟨i, rfl, rfl, hi, HI, HBQ⟩ := hrel
        have a0 := (blk_cell (blk_below K0.out (HB.out.trans (HBQ.out.mono HB.out.size))) 0).trans (show _ = some (Value.slice A0 x.f0.length c0) from rfl)
        by_cases hlt : i < x.f1.length
        · have hlt' : (i : Int) < (x.f1.length : Int) := by omega
          have hcf := HCF.out.below (HB.out.trans (HBQ.out.mono HB.out.size))
          obtain ⟨ad, ea, y0⟩ := Kd.at_int hcf.g1 i (by omega) hlt'
          clear hcf
          subst ea
          simp only [Int.toNat_natCast] at y0
          rw [rd_at x.f1 hlt] at y0
          obtain ⟨e, he⟩ : ∃ e, x.f1[i] = e := ⟨_, rfl⟩
          have HE := Aside0.mk he
          rw [he] at y0
          clear he
          by_cases h1 : e < 0
          · have t1 : decide (e < 0) = true := decide_eq_true h1
            have HRR := Aside0.mk (bad_of (x := x) (fun h => by have hb := h.r1.bd _ (List.getElem_mem hlt); rw [HE.out] at hb; omega))
            go_wp2_with fail
            go_big_quiet (fail)
            go_wp2_with fail
            go_ret
            exact ⟨by rw [HRR.out]; rfl, HBW.out.trans ((HB.out.trans ((pw_below_drewN HBQ.out _).mono HB.out.size)).mono HBW.out.size)⟩
          · have t1 : decide (e < 0) = false := decide_eq_false h1
            by_cases h2 : 1048575 < e
            · have t2 : decide (1048575 < e) = true := decide_eq_true h2
              have HRR := Aside0.mk (bad_of (x := x) (fun h => by have hb := h.r1.bd _ (List.getElem_mem hlt); rw [HE.out] at hb; omega))
              go_wp2_with fail
              go_big_quiet (fail)
              go_wp2_with fail
              go_ret
              exact ⟨by rw [HRR.out]; rfl, HBW.out.trans ((HB.out.trans ((pw_below_drewN HBQ.out _).mono HB.out.size)).mono HBW.out.size)⟩
            · have t2 : decide (1048575 < e) = false := decide_eq_false h2
              by_cases h3 : i = 0
              · have t3 : decide (0 < i) = false := decide_eq_false (by omega)
                have t3' : decide ((0 : Int) < (i : Int)) = false := decide_eq_false (by omega)
                have HRS : Aside0 (Ris (x.f1.take (i + 1))) := ⟨HI.out.1.snoc hlt (by rw [HE.out]; omega) (by rw [HE.out]; omega) (fun hz => absurd h3 (by omega))⟩
                clear h3
                obtain ⟨km, hkm⟩ := (in_ev x.f0 e (by omega)).rounds
                have HLC : Aside0 (∀ m, Calls Try.prog 56 #[.slice A0 x.f0.length c0, .int .i64 e] (wr.drewN m) (fun e' w' => e' = .returned (.bool (decide (e ∈ x.f0))) ∧ ∃ n, w' = (wr.drewN m).drewN n)) := ⟨fun m => by
                  have h := (HCF.out.below (HB.out.trans (HBQ.out.mono HB.out.size)))
                  exact (echelonref08_In.calls km A0 c0 x.f0 e _ (wr.drewN m) (Kd.C_drewN h.g0 m) h.l0 hkm).mono fun e' w' ⟨he, hd⟩ => ⟨he, hd.out⟩⟩
                clear hkm
                by_cases hin : e ∈ x.f0
                · have HRR := Aside0.mk (bad_of (x := x) (fun h => h.ap _ (List.getElem_mem hlt) (by rw [HE.out]; exact hin)))
                  rw [decide_eq_true hin] at HLC
                  clear hin
                  go_wp2_with fail
                  go_quiet ((go_at_call 56; exact Calls.quiet_of (HLC.out _)))
                  go_wp2_with fail
                  go_ret
                  exact ⟨by rw [HRR.out]; rfl, HBW.out.trans ((HB.out.trans ((pw_below_drewN HBQ.out _).mono HB.out.size)).mono HBW.out.size)⟩
                · have HI2 : Aside0 (Ris (x.f1.take (i + 1)) ∧ ∀ y ∈ x.f1.take (i + 1), y ∉ x.f0) := ⟨HRS.out, fun y hy => by
                    rw [List.take_succ_eq_append_getElem hlt] at hy
                    rcases List.mem_append.1 hy with hy | hy
                    · exact HI.out.2 y hy
                    · rw [List.mem_singleton] at hy; rw [hy, HE.out]; exact hin⟩
                  rw [decide_eq_false hin] at HLC
                  clear hin HI HRS
                  go_wp2_with fail
                  go_quiet ((go_at_call 56; exact Calls.quiet_of (HLC.out _)))
                  go_wp2_with fail
                  go_roundg (x.f1.length - (i + 1))
                  case measure => omega
                  case rel => exact ⟨i + 1, by go_num, by first | go_num | (simp; omega) | rfl, by omega, HI2, ⟨pw_below_drewN HBQ.out _⟩⟩
              · have t3 : decide (0 < i) = true := decide_eq_true (by omega)
                have t3' : decide ((0 : Int) < (i : Int)) = true := decide_eq_true (by omega)
                have hpos : 0 < i := by omega
                have hlt1 : i - 1 < x.f1.length := by omega
                have hlt1' : ((i - 1 : Nat) : Int) < (x.f1.length : Int) := by omega
                have hcf := HCF.out.below (HB.out.trans (HBQ.out.mono HB.out.size))
                obtain ⟨ad', ea', y1⟩ := Kd.at_int hcf.g1 ((i - 1 : Nat) : Int) (by omega) hlt1'
                injection ea' with ea'
                subst ea'
                clear hcf
                simp only [Int.toNat_natCast] at y1
                rw [rd_at x.f1 hlt1] at y1
                obtain ⟨e', he'⟩ : ∃ e', x.f1[i - 1] = e' := ⟨_, rfl⟩
                have HE' := Aside0.mk he'
                rw [he'] at y1
                clear he'
                by_cases h4 : e ≤ e'
                · have t4 : decide (e ≤ e') = true := decide_eq_true h4
                  have HRR := Aside0.mk (bad_of (x := x) (fun h => by have hu := List.pairwise_iff_getElem.1 h.r1.up (i - 1) i hlt1 hlt (by omega); rw [HE.out, HE'.out] at hu; omega))
                  go_wp2_with fail
                  go_big_quiet (fail)
                  go_wp2_with fail
                  go_ret
                  exact ⟨by rw [HRR.out]; rfl, HBW.out.trans ((HB.out.trans ((pw_below_drewN HBQ.out _).mono HB.out.size)).mono HBW.out.size)⟩
                · have t4 : decide (e ≤ e') = false := decide_eq_false h4
                  have HRS : Aside0 (Ris (x.f1.take (i + 1))) := ⟨HI.out.1.snoc hlt (by rw [HE.out]; omega) (by rw [HE.out]; omega) (fun hz => by rw [HE.out, HE'.out]; omega)⟩
                  clear h3
                  obtain ⟨km, hkm⟩ := (in_ev x.f0 e (by omega)).rounds
                  have HLC : Aside0 (∀ m, Calls Try.prog 56 #[.slice A0 x.f0.length c0, .int .i64 e] (wr.drewN m) (fun e' w' => e' = .returned (.bool (decide (e ∈ x.f0))) ∧ ∃ n, w' = (wr.drewN m).drewN n)) := ⟨fun m => by
                    have h := (HCF.out.below (HB.out.trans (HBQ.out.mono HB.out.size)))
                    exact (echelonref08_In.calls km A0 c0 x.f0 e _ (wr.drewN m) (Kd.C_drewN h.g0 m) h.l0 hkm).mono fun e' w' ⟨he, hd⟩ => ⟨he, hd.out⟩⟩
                  clear hkm
                  by_cases hin : e ∈ x.f0
                  · have HRR := Aside0.mk (bad_of (x := x) (fun h => h.ap _ (List.getElem_mem hlt) (by rw [HE.out]; exact hin)))
                    rw [decide_eq_true hin] at HLC
                    clear hin
                    go_wp2_with fail
                    go_quiet ((go_at_call 56; exact Calls.quiet_of (HLC.out _)))
                    go_wp2_with fail
                    go_ret
                    exact ⟨by rw [HRR.out]; rfl, HBW.out.trans ((HB.out.trans ((pw_below_drewN HBQ.out _).mono HB.out.size)).mono HBW.out.size)⟩
                  · have HI2 : Aside0 (Ris (x.f1.take (i + 1)) ∧ ∀ y ∈ x.f1.take (i + 1), y ∉ x.f0) := ⟨HRS.out, fun y hy => by
                      rw [List.take_succ_eq_append_getElem hlt] at hy
                      rcases List.mem_append.1 hy with hy | hy
                      · exact HI.out.2 y hy
                      · rw [List.mem_singleton] at hy; rw [hy, HE.out]; exact hin⟩
                    rw [decide_eq_false hin] at HLC
                    clear hin HI HRS
                    go_wp2_with fail
                    go_quiet ((go_at_call 56; exact Calls.quiet_of (HLC.out _)))
                    go_wp2_with fail
                    go_roundg (x.f1.length - (i + 1))
                    case measure => omega
                    case rel => exact ⟨i + 1, by go_num, by first | go_num | (simp; omega) | rfl, by omega, HI2, ⟨pw_below_drewN HBQ.out _⟩⟩
        · clear a0
          have HRF : Aside0 (1 < 0 + 1 + 1 → Ris x.f1 ∧ ∀ y ∈ x.f1, y ∉ x.f0) := ⟨fun _ => by have := HI.out; rwa [List.take_of_length_le (by omega)] at this⟩
          go_wp2_with fail
          go_roundg 0
          case measure => omega
          case rel => exact ⟨0 + 1 + 1, by go_num, by omega, by first | rfl | (simp; omega), ⟨fun _ => HK0.out (by omega)⟩, HRF, ⟨HB.out.trans (HBQ.out.mono HB.out.size)⟩⟩
    · obtain rfl : k = 0 := by omega
      have hk0 := HK0.out (by omega)
      have hk1 := HK1.out (by omega)
      have HBZ := Aside0.mk (HBW.out.trans (HB.out.mono HBW.out.size))
      by_cases h9 : x.f0.length + x.f1.length ≤ 9
      · have t1 : decide ((x.f0.length : Int) + (x.f1.length : Int) ≤ 9) = true := decide_eq_true (by omega)
        have t1' : decide (x.f0.length + x.f1.length ≤ 9) = true := decide_eq_true h9
        by_cases h0 : x.f0.length = 0
        · have HRR := Aside0.mk (bad_of (x := x) (fun h => h.ne (List.length_eq_zero_iff.1 h0)))
          have t2 : decide ((0 : Int) < (x.f0.length : Int)) = false := decide_eq_false (by omega)
          have t2' : decide (0 < x.f0.length) = false := decide_eq_false (by omega)
          clear hk0 hk1 h9 h0
          go_wp2_with fail
          go_ret
          exact ⟨by rw [HRR.out]; rfl, HBZ.out⟩
        · have HRR : Aside0 (rtB x = true) := ⟨rtB_iff.2 ⟨hk1.2, fun e => h0 (by rw [e]; rfl), h9, hk0, hk1.1⟩⟩
          have t2 : decide ((0 : Int) < (x.f0.length : Int)) = true := decide_eq_true (by omega)
          have t2' : decide (0 < x.f0.length) = true := decide_eq_true (by omega)
          clear hk0 hk1 h9 h0
          go_wp2_with fail
          go_ret
          exact ⟨by rw [HRR.out]; rfl, HBZ.out⟩
      · have t1 : decide ((x.f0.length : Int) + (x.f1.length : Int) ≤ 9) = false := decide_eq_false (by omega)
        have t1' : decide (x.f0.length + x.f1.length ≤ 9) = false := decide_eq_false h9
        have HRR := Aside0.mk (bad_of (x := x) (fun h => h9 h.len))
        clear hk0 hk1 h9
        go_wp2_with fail
        go_ret
        exact ⟨by rw [HRR.out]; rfl, HBZ.out⟩
end Go.Proofs.Ytkeadpichlgagaa.Me
