/- Kept of the text Plx3: what is reached (wip/tools/prune.py). -/
import Derived.Test.YtkeadpichlgagaaVPlx0
namespace Go.Proofs.Ytkeadpichlgagaa.Pl
open Go.RowKit Go.Proofs.YtkeadpichlgagaaW.PrintWords Go.Proofs.YtkeadpichlgagaaW.PrintLast Go.Proofs.YtkeadpichlgagaaW.PrintMore
attribute [local go_sem] max2_int min2_int max_two min_two max_three min_three max_four min_four   -- for this text's walks alone
open Go.Proofs.Ytkeadpichlgagaa.PlS
set_option linter.unusedVariables false
set_option linter.unusedSimpArgs false
mutual
def echelonref15_Wave.l0 : Nat → Int → Int → Int → Int → List (S51) → Option (Int)
  | 0, _, _, _, _, _ => none
  | k + 1, x1, x5, x226000, x226001, x226002 => if x5 < (x226002.length : Int) then (echelonref15_Wave.l1 k x1 x5 0 x226000 x226001 x226002) else (some (-1))
def echelonref15_Wave.l1 : Nat → Int → Int → Int → Int → Int → List (S51) → Option (Int)
  | 0, _, _, _, _, _, _ => none
  | k + 1, x1, x5, x6, x226000, x226001, x226002 => if 0 ≤ x5 then (if x5 < (x226002.length : Int) then (if x6 < (((rd_T51 x226002 x5).f1).length : Int) then (if 0 ≤ x6 then (if (rd ((rd_T51 x226002 x5).f1) x6) = x1 then (some x5) else (echelonref15_Wave.l1 k x1 x5 (wrap64 (x6 + 1)) x226000 x226001 x226002)) else (none)) else (echelonref15_Wave.l0 k x1 (wrap64 (x5 + 1)) x226000 x226001 x226002)) else (none)) else (none)
end
def echelonref15_Wave.f (k : Nat) (a0_0 : Int) (a0_1 : Int) (l0_2 : List (S51)) (a1 : Int) : Option (Int) := echelonref15_Wave.l0 k a1 0 a0_0 a0_1 l0_2
theorem echelonref15_Wave.mono_l : ∀ k, (∀ y0 y1 y2 y3 y4, LeO (echelonref15_Wave.l0 k y0 y1 y2 y3 y4) (echelonref15_Wave.l0 (k + 1) y0 y1 y2 y3 y4)) ∧ (∀ y0 y1 y2 y3 y4 y5, LeO (echelonref15_Wave.l1 k y0 y1 y2 y3 y4 y5) (echelonref15_Wave.l1 (k + 1) y0 y1 y2 y3 y4 y5))
  | 0 => ⟨fun _ _ _ _ _ r h => by simp [echelonref15_Wave.l0] at h, fun _ _ _ _ _ _ r h => by simp [echelonref15_Wave.l1] at h⟩
  | k + 1 => by
    obtain ⟨ih0, ih1⟩ := echelonref15_Wave.mono_l k
    refine ⟨?_, ?_⟩
    · intro y0 y1 y2 y3 y4
      unfold echelonref15_Wave.l0
      repeat' first
      | (with_reducible exact ih0 _ _ _ _ _)
      | (with_reducible exact ih1 _ _ _ _ _ _)
      | (with_reducible exact LeO.refl _)
      | (with_reducible exact LeO.none _)
      | (with_reducible refine LeO.ite ?_ ?_)
      | (with_reducible refine LeO.bind ?_ (fun _ => ?_))
      | exact ih0 _ _ _ _ _
      | exact ih1 _ _ _ _ _ _
      | exact LeO.none _
      | refine LeO.ite ?_ ?_
      | refine LeO.bind ?_ (fun _ => ?_)
    · intro y0 y1 y2 y3 y4 y5
      unfold echelonref15_Wave.l1
      repeat' first
      | (with_reducible exact ih0 _ _ _ _ _)
      | (with_reducible exact ih1 _ _ _ _ _ _)
      | (with_reducible exact LeO.refl _)
      | (with_reducible exact LeO.none _)
      | (with_reducible refine LeO.ite ?_ ?_)
      | (with_reducible refine LeO.bind ?_ (fun _ => ?_))
      | exact ih0 _ _ _ _ _
      | exact ih1 _ _ _ _ _ _
      | exact LeO.none _
      | refine LeO.ite ?_ ?_
      | refine LeO.bind ?_ (fun _ => ?_)
theorem echelonref15_Wave.mono : ∀ a0 a1 a2 a3 k, LeO (echelonref15_Wave.f k a0 a1 a2 a3) (echelonref15_Wave.f (k + 1) a0 a1 a2 a3) := by
  intro a0 a1 a2 a3 k
  obtain ⟨ih0, ih1⟩ := echelonref15_Wave.mono_l k
  unfold echelonref15_Wave.f
  repeat' first
      | (with_reducible exact ih0 _ _ _ _ _)
      | (with_reducible exact ih1 _ _ _ _ _ _)
      | (with_reducible exact LeO.refl _)
      | (with_reducible exact LeO.none _)
      | (with_reducible refine LeO.ite ?_ ?_)
      | (with_reducible refine LeO.bind ?_ (fun _ => ?_))
      | exact ih0 _ _ _ _ _
      | exact ih1 _ _ _ _ _ _
      | exact LeO.none _
      | refine LeO.ite ?_ ?_
      | refine LeO.bind ?_ (fun _ => ?_)
set_option maxHeartbeats 8000000 in
set_option maxRecDepth 100000 in
theorem echelonref15_Wave.calls (k : Nat) (a0_0 : Int) (a0_1 : Int) (A0_2 : Option Addr) (c0_2 : Nat) (l0_2 : List (S51)) (a1 : Int) (r : Int) (w : World) (hr0_2 : Kd.C k51 w A0_2 l0_2.length l0_2) (hc0_2 : l0_2.length ≤ c0_2) (h : echelonref15_Wave.f k a0_0 a0_1 l0_2 a1 = some r) :
    Calls Try.prog 33 #[.agg #[.int .i64 a0_0, .int .i64 a0_1, .slice A0_2 l0_2.length c0_2], .int .i64 a1] w fun e w' => e = .returned (.int .i64 r) ∧ Below w.heap.size w w' := by
  have hu43 := Try.underlying43
  have HR0_2 := Aside0.mk hr0_2
  have HC0_2 := Aside0.mk hc0_2
  clear hr0_2 hc0_2
  have HB := Aside0.mk (Below.refl w.heap.size w)
  have H : (echelonref15_Wave.l0 k a1 0 a0_0 a0_1 l0_2) = some r := h
  clear h
  have H' := Aside0.mk H
  clear H
  go_enter Try.func33, Try.ntmps33
  go_wp2_with (first | ((with_reducible refine gate_dst (N := 2) rfl ?_); refine box_event ?hg (N := 2) ?hd (cs := #[.int .i64 a0_0, .int .i64 a0_1, .slice A0_2 l0_2.length c0_2]) (t := 43) ?hr ?_; (case hd => rfl); (case hg => rfl); (case hr => first | (go_simp; done) | (go_simp; rfl)); intro gb225 hg w3 hbox hb; have n0_ := Aside0.mk (below_step (by repeat (first | (with_reducible first | exact HB.out | apply below_alloc | apply pw_below_drewN | apply below_drew1) | exact HB.out)) hb); have n1_ := Aside0.mk (hbox); have n2_ := Aside0.mk ((by rw [hg]; exact (below_size (by repeat (first | (with_reducible first | exact HB.out | apply below_alloc | apply pw_below_drewN | apply below_drew1) | exact HB.out))) : w.heap.size ≤ gb225)); have n3_ := Aside0.mk ((by rw [hg]; exact (below_size (by repeat (first | (with_reducible first | exact HB.out | apply below_alloc | apply pw_below_drewN | apply below_drew1) | exact HB.out))) : w.heap.size ≤ gb225)); clear HB; have HB := n0_; have BK225 := n1_; have GW225 := n2_; have GE225 := n3_; clear n0_ n1_ n2_ n3_; clear hb hbox hg))
  go_loopg [5] k (fun kq v5 w' => ∃ (x5_1 : Int), v5 = .int .i64 x5_1 ∧ Aside0 (echelonref15_Wave.l0 kq a1 x5_1 a0_0 a0_1 l0_2 = some r) ∧ Aside0 (kq ≤ k) ∧ Aside0 (w'.heap[gb225]? = some (.cells #[.int .i64 a0_0, .int .i64 a0_1, (.slice A0_2 l0_2.length c0_2)] 43 (0, 0))) ∧ Aside0 (Below w.heap.size w w'))
  case atStart => exact ⟨(0), (by first | rfl | (simp; done) | (simp [*]; done)), H', ⟨Nat.le_refl _⟩, ⟨by (with_reducible repeat (first | refine blk_drewN ?_ _ | refine blk_drew ?_ | refine blk_alloc ?_ _)); exact BK225.out⟩, ⟨by repeat (first | (with_reducible first | exact HB.out | apply below_alloc | apply pw_below_drewN | apply below_drew1 | refine below_set ?_ GE225.out) | exact HB.out)⟩⟩
  case round =>
    clear H'
    try clear p2
    try clear c3
    obtain ⟨x5_1, rfl, HA, HK1, BK225, HB⟩ := hrel
    cases gk with
    | zero => exact absurd HA.out (by simp [echelonref15_Wave.l0])
    | succ k1 =>
      have H := HA.out
      clear HA
      simp only [echelonref15_Wave.l0] at H
      by_cases c4 : x5_1 < (l0_2.length : Int)
      · rw [if_pos c4] at H
        have c4b0 : decide (x5_1 < (l0_2.length : Int)) = true := decide_eq_true c4
        clear c4
        have H' := Aside0.mk H
        clear H
        have hcz5_0 : wr.cell? ⟨gb225, 0, none⟩ = some (.int .i64 a0_0) := (blk_cell BK225.out 0).trans rfl
        have hcz5_1 : wr.cell? ⟨gb225, 1, none⟩ = some (.int .i64 a0_1) := (blk_cell BK225.out 1).trans rfl
        have hcz5_2 : wr.cell? ⟨gb225, 2, none⟩ = some (.slice A0_2 l0_2.length c0_2) := (blk_cell BK225.out 2).trans rfl
        have hfz5_0 := blk_frozen BK225.out 0
        have hfz5_1 := blk_frozen BK225.out 1
        have hfz5_2 := blk_frozen BK225.out 2
        go_wp2
        go_loopg [6] k1 (fun kq v6 w' => ∃ (x6_2 : Int), v6 = .int .i64 x6_2 ∧ Aside0 (echelonref15_Wave.l1 kq a1 x5_1 x6_2 a0_0 a0_1 l0_2 = some r) ∧ Aside0 (kq ≤ k1) ∧ Aside0 (w'.heap[gb225]? = some (.cells #[.int .i64 a0_0, .int .i64 a0_1, (.slice A0_2 l0_2.length c0_2)] 43 (0, 0))) ∧ Aside0 (Below w.heap.size w w'))
        case atStart => exact ⟨(0), (by first | rfl | (simp; done) | (simp [*]; done)), H', ⟨Nat.le_refl _⟩, ⟨by (with_reducible repeat (first | refine blk_drewN ?_ _ | refine blk_drew ?_ | refine blk_alloc ?_ _)); exact BK225.out⟩, ⟨by repeat (first | (with_reducible first | exact HB.out | apply below_alloc | apply pw_below_drewN | apply below_drew1 | refine below_set ?_ GE225.out) | exact HB.out)⟩⟩
        case round =>
          clear H'
          try clear p2
          try clear c3
          try clear c4
          try clear c4b0
          try clear hcz5_0
          try clear hcz5_1
          try clear hcz5_2
          try clear hfz5_0
          try clear hfz5_1
          try clear hfz5_2
          try clear p2
          obtain ⟨x6_2, rfl, HA, HK2, BK225, HB⟩ := hrel
          cases gk with
          | zero => exact absurd HA.out (by simp [echelonref15_Wave.l1])
          | succ k2 =>
            have H := HA.out
            clear HA
            simp only [echelonref15_Wave.l1] at H
            by_cases c6 : 0 ≤ x5_1
            · rw [if_pos c6] at H
              have c6b0 : decide (0 ≤ x5_1) = true := decide_eq_true c6
              clear c6
              by_cases c7 : x5_1 < (l0_2.length : Int)
              · rw [if_pos c7] at H
                have c7b0 : decide (x5_1 < (l0_2.length : Int)) = true := decide_eq_true c7
                clear c7
                by_cases c8 : x6_2 < (((rd_T51 l0_2 x5_1).f1).length : Int)
                · rw [if_pos c8] at H
                  have c8b0 : decide (x6_2 < (((rd_T51 l0_2 x5_1).f1).length : Int)) = true := decide_eq_true c8
                  clear c8
                  by_cases c9 : 0 ≤ x6_2
                  · rw [if_pos c9] at H
                    have c9b0 : decide (0 ≤ x6_2) = true := decide_eq_true c9
                    clear c9
                    by_cases c10 : (rd ((rd_T51 l0_2 x5_1).f1) x6_2) = a1
                    · rw [if_pos c10] at H
                      have c10b0 : ((rd ((rd_T51 l0_2 x5_1).f1) x6_2) == a1) = true := beq_iff_eq.mpr c10
                      have c10b1 : ((rd ((rd_T51 l0_2 x5_1).f1) x6_2) != a1) = false := bne_eq_false_iff_eq.mpr c10
                      clear c10
                      obtain rfl := Option.some.inj H
                      have hcz11_0 : wr.cell? ⟨gb225, 0, none⟩ = some (.int .i64 a0_0) := (blk_cell BK225.out 0).trans rfl
                      have hcz11_1 : wr.cell? ⟨gb225, 1, none⟩ = some (.int .i64 a0_1) := (blk_cell BK225.out 1).trans rfl
                      have hcz11_2 : wr.cell? ⟨gb225, 2, none⟩ = some (.slice A0_2 l0_2.length c0_2) := (blk_cell BK225.out 2).trans rfl
                      have hfz11_0 := blk_frozen BK225.out 0
                      have hfz11_1 := blk_frozen BK225.out 1
                      have hfz11_2 := blk_frozen BK225.out 2
                      have p226 : 0 ≤ (x5_1 : Int) := of_decide_eq_true (by first | (with_reducible assumption) | assumption)
                      have q226 : x5_1 < (l0_2.length : Int) := of_decide_eq_true (by first | (with_reducible assumption) | assumption)
                      obtain ⟨ad226, A226_0, c226_0, A226_1, c226_1, e226, hx226_0, hx226_1, hx226_2, hl226_0, hi226_0, hl226_1, hi226_1⟩ := at_T51 HR0_2.out x5_1 p226 q226
                      cases e226
                      replace hx226_0 := (HB.out.cell (World.block_lt_of_cell? w _ hx226_0)).trans hx226_0
                      replace hx226_1 := (HB.out.cell (World.block_lt_of_cell? w _ hx226_1)).trans hx226_1
                      replace hx226_2 := (HB.out.cell (World.block_lt_of_cell? w _ hx226_2)).trans hx226_2
                      have HR226_0 := Aside0.mk hi226_0
                      have HC226_0 := Aside0.mk hl226_0
                      clear hi226_0 hl226_0
                      have HR226_1 := Aside0.mk hi226_1
                      have HC226_1 := Aside0.mk hl226_1
                      clear hi226_1 hl226_1
                      replace p226 := eq_true p226
                      replace q226 := eq_true q226
                      have p227 : 0 ≤ (x5_1 : Int) := of_decide_eq_true (by first | (with_reducible assumption) | assumption)
                      have q227 : x5_1 < (l0_2.length : Int) := of_decide_eq_true (by first | (with_reducible assumption) | assumption)
                      obtain ⟨ad227, A227_0, c227_0, A227_1, c227_1, e227, hx227_0, hx227_1, hx227_2, hl227_0, hi227_0, hl227_1, hi227_1⟩ := at_T51 HR0_2.out x5_1 p227 q227
                      obtain rfl : ad226 = ad227 := (by injection e227)
                      replace hx227_0 := (HB.out.cell (World.block_lt_of_cell? w _ hx227_0)).trans hx227_0
                      replace hx227_1 := (HB.out.cell (World.block_lt_of_cell? w _ hx227_1)).trans hx227_1
                      replace hx227_2 := (HB.out.cell (World.block_lt_of_cell? w _ hx227_2)).trans hx227_2
                      have HR227_0 := Aside0.mk hi227_0
                      have HC227_0 := Aside0.mk hl227_0
                      clear hi227_0 hl227_0
                      have HR227_1 := Aside0.mk hi227_1
                      have HC227_1 := Aside0.mk hl227_1
                      clear hi227_1 hl227_1
                      replace p227 := eq_true p227
                      replace q227 := eq_true q227
                      have ea_ := Option.some.inj (hx226_0.symm.trans hx227_0)
                      injection ea_ with ea_ en_ ec_
                      subst ea_
                      subst ec_
                      clear en_
                      have ea_ := Option.some.inj (hx226_1.symm.trans hx227_1)
                      injection ea_ with ea_ en_ ec_
                      subst ea_
                      subst ec_
                      clear en_
                      have p228 : 0 ≤ (x6_2 : Int) := of_decide_eq_true (by first | (with_reducible assumption) | assumption)
                      have q228 : x6_2 < (((rd_T51 l0_2 x5_1).f1).length : Int) := of_decide_eq_true (by first | (with_reducible assumption) | assumption)
                      obtain ⟨ad228, e228, hx228_0⟩ := Kd.at_int HR227_1.out x6_2 p228 q228
                      cases e228
                      replace hx228_0 := (HB.out.cell (World.block_lt_of_cell? w _ hx228_0)).trans hx228_0
                      replace p228 := eq_true p228
                      replace q228 := eq_true q228
                      go_wp2
                      go_ret
                      exact ⟨by first | rfl | (simp [errW_none, errW_some] <;> rfl) | (simp [*, errW_none, errW_some] <;> rfl), by repeat (first | (with_reducible first | exact HB.out | apply below_alloc | apply pw_below_drewN | apply below_drew1 | refine below_set ?_ GE225.out) | exact HB.out)⟩
                    · rw [if_neg c10] at H
                      have c10b0 : ((rd ((rd_T51 l0_2 x5_1).f1) x6_2) == a1) = false := beq_eq_false_iff_ne.mpr c10
                      have c10b1 : ((rd ((rd_T51 l0_2 x5_1).f1) x6_2) != a1) = true := bne_iff_ne.mpr c10
                      have H' := Aside0.mk H
                      clear H
                      have hcz12_0 : wr.cell? ⟨gb225, 0, none⟩ = some (.int .i64 a0_0) := (blk_cell BK225.out 0).trans rfl
                      have hcz12_1 : wr.cell? ⟨gb225, 1, none⟩ = some (.int .i64 a0_1) := (blk_cell BK225.out 1).trans rfl
                      have hcz12_2 : wr.cell? ⟨gb225, 2, none⟩ = some (.slice A0_2 l0_2.length c0_2) := (blk_cell BK225.out 2).trans rfl
                      have hfz12_0 := blk_frozen BK225.out 0
                      have hfz12_1 := blk_frozen BK225.out 1
                      have hfz12_2 := blk_frozen BK225.out 2
                      have p226 : 0 ≤ (x5_1 : Int) := of_decide_eq_true (by first | (with_reducible assumption) | assumption)
                      have q226 : x5_1 < (l0_2.length : Int) := of_decide_eq_true (by first | (with_reducible assumption) | assumption)
                      obtain ⟨ad226, A226_0, c226_0, A226_1, c226_1, e226, hx226_0, hx226_1, hx226_2, hl226_0, hi226_0, hl226_1, hi226_1⟩ := at_T51 HR0_2.out x5_1 p226 q226
                      cases e226
                      replace hx226_0 := (HB.out.cell (World.block_lt_of_cell? w _ hx226_0)).trans hx226_0
                      replace hx226_1 := (HB.out.cell (World.block_lt_of_cell? w _ hx226_1)).trans hx226_1
                      replace hx226_2 := (HB.out.cell (World.block_lt_of_cell? w _ hx226_2)).trans hx226_2
                      have HR226_0 := Aside0.mk hi226_0
                      have HC226_0 := Aside0.mk hl226_0
                      clear hi226_0 hl226_0
                      have HR226_1 := Aside0.mk hi226_1
                      have HC226_1 := Aside0.mk hl226_1
                      clear hi226_1 hl226_1
                      replace p226 := eq_true p226
                      replace q226 := eq_true q226
                      have p227 : 0 ≤ (x5_1 : Int) := of_decide_eq_true (by first | (with_reducible assumption) | assumption)
                      have q227 : x5_1 < (l0_2.length : Int) := of_decide_eq_true (by first | (with_reducible assumption) | assumption)
                      obtain ⟨ad227, A227_0, c227_0, A227_1, c227_1, e227, hx227_0, hx227_1, hx227_2, hl227_0, hi227_0, hl227_1, hi227_1⟩ := at_T51 HR0_2.out x5_1 p227 q227
                      obtain rfl : ad226 = ad227 := (by injection e227)
                      replace hx227_0 := (HB.out.cell (World.block_lt_of_cell? w _ hx227_0)).trans hx227_0
                      replace hx227_1 := (HB.out.cell (World.block_lt_of_cell? w _ hx227_1)).trans hx227_1
                      replace hx227_2 := (HB.out.cell (World.block_lt_of_cell? w _ hx227_2)).trans hx227_2
                      have HR227_0 := Aside0.mk hi227_0
                      have HC227_0 := Aside0.mk hl227_0
                      clear hi227_0 hl227_0
                      have HR227_1 := Aside0.mk hi227_1
                      have HC227_1 := Aside0.mk hl227_1
                      clear hi227_1 hl227_1
                      replace p227 := eq_true p227
                      replace q227 := eq_true q227
                      have ea_ := Option.some.inj (hx226_0.symm.trans hx227_0)
                      injection ea_ with ea_ en_ ec_
                      subst ea_
                      subst ec_
                      clear en_
                      have ea_ := Option.some.inj (hx226_1.symm.trans hx227_1)
                      injection ea_ with ea_ en_ ec_
                      subst ea_
                      subst ec_
                      clear en_
                      have p228 : 0 ≤ (x6_2 : Int) := of_decide_eq_true (by first | (with_reducible assumption) | assumption)
                      have q228 : x6_2 < (((rd_T51 l0_2 x5_1).f1).length : Int) := of_decide_eq_true (by first | (with_reducible assumption) | assumption)
                      obtain ⟨ad228, e228, hx228_0⟩ := Kd.at_int HR227_1.out x6_2 p228 q228
                      cases e228
                      replace hx228_0 := (HB.out.cell (World.block_lt_of_cell? w _ hx228_0)).trans hx228_0
                      replace p228 := eq_true p228
                      replace q228 := eq_true q228
                      go_wp2
                      go_roundg k2
                      case measure => have := HK1.out; have := HK2.out; omega
                      case rel => exact ⟨(wrap64 (x6_2 + 1)), (by first | rfl | (simp; done) | (simp [*]; done)), H', ⟨by have := HK1.out; have := HK2.out; omega⟩, ⟨by (with_reducible repeat (first | refine blk_drewN ?_ _ | refine blk_drew ?_ | refine blk_alloc ?_ _)); exact BK225.out⟩, ⟨by repeat (first | (with_reducible first | exact HB.out | apply below_alloc | apply pw_below_drewN | apply below_drew1 | refine below_set ?_ GE225.out) | exact HB.out)⟩⟩
                  · rw [if_neg c9] at H
                    exact absurd H (by simp)
                · rw [if_neg c8] at H
                  have c8b0 : decide (x6_2 < (((rd_T51 l0_2 x5_1).f1).length : Int)) = false := decide_eq_false c8
                  clear c8
                  have H' := Aside0.mk H
                  clear H
                  have hcz13_0 : wr.cell? ⟨gb225, 0, none⟩ = some (.int .i64 a0_0) := (blk_cell BK225.out 0).trans rfl
                  have hcz13_1 : wr.cell? ⟨gb225, 1, none⟩ = some (.int .i64 a0_1) := (blk_cell BK225.out 1).trans rfl
                  have hcz13_2 : wr.cell? ⟨gb225, 2, none⟩ = some (.slice A0_2 l0_2.length c0_2) := (blk_cell BK225.out 2).trans rfl
                  have hfz13_0 := blk_frozen BK225.out 0
                  have hfz13_1 := blk_frozen BK225.out 1
                  have hfz13_2 := blk_frozen BK225.out 2
                  have p226 : 0 ≤ (x5_1 : Int) := of_decide_eq_true (by first | (with_reducible assumption) | assumption)
                  have q226 : x5_1 < (l0_2.length : Int) := of_decide_eq_true (by first | (with_reducible assumption) | assumption)
                  obtain ⟨ad226, A226_0, c226_0, A226_1, c226_1, e226, hx226_0, hx226_1, hx226_2, hl226_0, hi226_0, hl226_1, hi226_1⟩ := at_T51 HR0_2.out x5_1 p226 q226
                  cases e226
                  replace hx226_0 := (HB.out.cell (World.block_lt_of_cell? w _ hx226_0)).trans hx226_0
                  replace hx226_1 := (HB.out.cell (World.block_lt_of_cell? w _ hx226_1)).trans hx226_1
                  replace hx226_2 := (HB.out.cell (World.block_lt_of_cell? w _ hx226_2)).trans hx226_2
                  have HR226_0 := Aside0.mk hi226_0
                  have HC226_0 := Aside0.mk hl226_0
                  clear hi226_0 hl226_0
                  have HR226_1 := Aside0.mk hi226_1
                  have HC226_1 := Aside0.mk hl226_1
                  clear hi226_1 hl226_1
                  replace p226 := eq_true p226
                  replace q226 := eq_true q226
                  go_wp2
                  go_roundg k2
                  case measure => have := HK1.out; have := HK2.out; omega
                  case rel => exact ⟨(wrap64 (x5_1 + 1)), (by first | rfl | (simp; done) | (simp [*]; done)), H', ⟨by have := HK1.out; have := HK2.out; omega⟩, ⟨by (with_reducible repeat (first | refine blk_drewN ?_ _ | refine blk_drew ?_ | refine blk_alloc ?_ _)); exact BK225.out⟩, ⟨by repeat (first | (with_reducible first | exact HB.out | apply below_alloc | apply pw_below_drewN | apply below_drew1 | refine below_set ?_ GE225.out) | exact HB.out)⟩⟩
              · rw [if_neg c7] at H
                exact absurd H (by simp)
            · rw [if_neg c6] at H
              exact absurd H (by simp)
      · rw [if_neg c4] at H
        have c4b0 : decide (x5_1 < (l0_2.length : Int)) = false := decide_eq_false c4
        clear c4
        obtain rfl := Option.some.inj H
        have hcz14_0 : wr.cell? ⟨gb225, 0, none⟩ = some (.int .i64 a0_0) := (blk_cell BK225.out 0).trans rfl
        have hcz14_1 : wr.cell? ⟨gb225, 1, none⟩ = some (.int .i64 a0_1) := (blk_cell BK225.out 1).trans rfl
        have hcz14_2 : wr.cell? ⟨gb225, 2, none⟩ = some (.slice A0_2 l0_2.length c0_2) := (blk_cell BK225.out 2).trans rfl
        have hfz14_0 := blk_frozen BK225.out 0
        have hfz14_1 := blk_frozen BK225.out 1
        have hfz14_2 := blk_frozen BK225.out 2
        go_wp2
        go_ret
        exact ⟨by first | rfl | (simp [errW_none, errW_some] <;> rfl) | (simp [*, errW_none, errW_some] <;> rfl), by repeat (first | (with_reducible first | exact HB.out | apply below_alloc | apply pw_below_drewN | apply below_drew1 | refine below_set ?_ GE225.out) | exact HB.out)⟩
def echelonlaw15_run.l0 : Nat → List Int → Int → Int → Option (Int)
  | 0, _, _, _ => none
  | k + 1, x0, x1, x5 => if (wrap64 (x1 + x5)) < (x0.length : Int) then (if 0 ≤ (wrap64 (x1 + x5)) then (if 0 ≤ x1 then (if x1 < (x0.length : Int) then (if (rd x0 (wrap64 (x1 + x5))) = (rd x0 x1) then (echelonlaw15_run.l0 k x0 x1 (wrap64 (x5 + 1))) else (some x5)) else (none)) else (none)) else (none)) else (some x5)
def echelonlaw15_run.f (k : Nat) (l0 : List Int) (a1 : Int) : Option (Int) := echelonlaw15_run.l0 k l0 a1 0
theorem echelonlaw15_run.mono_l : ∀ k, (∀ y0 y1 y2, LeO (echelonlaw15_run.l0 k y0 y1 y2) (echelonlaw15_run.l0 (k + 1) y0 y1 y2))
  | 0 => fun _ _ _ r h => by simp [echelonlaw15_run.l0] at h
  | k + 1 => by
    have ih0 := echelonlaw15_run.mono_l k
    · intro y0 y1 y2
      unfold echelonlaw15_run.l0
      repeat' first
      | (with_reducible exact ih0 _ _ _)
      | (with_reducible exact LeO.refl _)
      | (with_reducible exact LeO.none _)
      | (with_reducible refine LeO.ite ?_ ?_)
      | (with_reducible refine LeO.bind ?_ (fun _ => ?_))
      | exact ih0 _ _ _
      | exact LeO.none _
      | refine LeO.ite ?_ ?_
      | refine LeO.bind ?_ (fun _ => ?_)
theorem echelonlaw15_run.mono : ∀ a0 a1 k, LeO (echelonlaw15_run.f k a0 a1) (echelonlaw15_run.f (k + 1) a0 a1) := by
  intro a0 a1 k
  have ih0 := echelonlaw15_run.mono_l k
  unfold echelonlaw15_run.f
  repeat' first
      | (with_reducible exact ih0 _ _ _)
      | (with_reducible exact LeO.refl _)
      | (with_reducible exact LeO.none _)
      | (with_reducible refine LeO.ite ?_ ?_)
      | (with_reducible refine LeO.bind ?_ (fun _ => ?_))
      | exact ih0 _ _ _
      | exact LeO.none _
      | refine LeO.ite ?_ ?_
      | refine LeO.bind ?_ (fun _ => ?_)
set_option maxHeartbeats 8000000 in
set_option maxRecDepth 100000 in
theorem echelonlaw15_run.calls (k : Nat) (A0 : Option Addr) (c0 : Nat) (l0 : List Int) (a1 : Int) (r : Int) (w : World) (hr0 : Kd.C (Kd.int .i64) w A0 l0.length l0) (hc0 : l0.length ≤ c0) (h : echelonlaw15_run.f k l0 a1 = some r) :
    Calls Try.prog 37 #[.slice A0 l0.length c0, .int .i64 a1] w fun e w' => e = .returned (.int .i64 r) ∧ Drawn0 w w' := by
  have HR0 := Aside0.mk hr0
  have HC0 := Aside0.mk hc0
  clear hr0 hc0
  have H : (echelonlaw15_run.l0 k l0 a1 0) = some r := h
  clear h
  have H' := Aside0.mk H
  clear H
  go_enter Try.func37, Try.ntmps37
  go_wp2
  repeat (go_quiet (fail); try go_wp2)
  go_loopg [5] k (fun kq v5 w' => ∃ (x5_1 : Int), v5 = .int .i64 x5_1 ∧ Aside0 (echelonlaw15_run.l0 kq l0 a1 x5_1 = some r) ∧ Aside0 (kq ≤ k) ∧ Drawn0 w w')
  case atStart => exact ⟨(0), (by first | rfl | (simp; done) | (simp [*]; done)), H', ⟨Nat.le_refl _⟩, by repeat (first | exact Drawn0.refl _ | apply Drawn0.step)⟩
  case round =>
    clear H'
    try clear p2
    obtain ⟨x5_1, rfl, HA, HK1, ⟨m1, rfl⟩⟩ := hrel
    cases gk with
    | zero => exact absurd HA.out (by simp [echelonlaw15_run.l0])
    | succ k1 =>
      have H := HA.out
      clear HA
      simp only [echelonlaw15_run.l0] at H
      by_cases c3 : (wrap64 (a1 + x5_1)) < (l0.length : Int)
      · rw [if_pos c3] at H
        have c3b0 : decide ((wrap64 (a1 + x5_1)) < (l0.length : Int)) = true := decide_eq_true c3
        clear c3
        obtain ⟨ji4, hji4⟩ : ∃ j_ : Int, (wrap64 (a1 + x5_1)) = j_ := ⟨_, rfl⟩
        replace H : (if 0 ≤ (ji4) then (if 0 ≤ a1 then (if a1 < (l0.length : Int) then (if (rd l0 (ji4)) = (rd l0 a1) then (echelonlaw15_run.l0 k1 l0 a1 (wrap64 (x5_1 + 1))) else (some x5_1)) else (none)) else (none)) else (none)) = some r := by first | (rw [hji4] at H; exact H) | (simp only [hji4] at H ⊢; exact H)
        (try rw [hji4] at c3b0)
        have hji4w : (IntKind.i64.wrap (a1 + x5_1)) = ji4 := (i64_w _).trans hji4
        by_cases c5 : 0 ≤ (ji4)
        · rw [if_pos c5] at H
          have c5b0 : decide (0 ≤ (ji4)) = true := decide_eq_true c5
          clear c5
          by_cases c6 : 0 ≤ a1
          · rw [if_pos c6] at H
            have c6b0 : decide (0 ≤ a1) = true := decide_eq_true c6
            clear c6
            by_cases c7 : a1 < (l0.length : Int)
            · rw [if_pos c7] at H
              have c7b0 : decide (a1 < (l0.length : Int)) = true := decide_eq_true c7
              clear c7
              by_cases c8 : (rd l0 (ji4)) = (rd l0 a1)
              · rw [if_pos c8] at H
                have c8b0 : ((rd l0 (ji4)) == (rd l0 a1)) = true := beq_iff_eq.mpr c8
                have c8b1 : ((rd l0 (ji4)) != (rd l0 a1)) = false := bne_eq_false_iff_eq.mpr c8
                clear c8
                have H' := Aside0.mk H
                clear H
                have p229 : 0 ≤ ((ji4) : Int) := of_decide_eq_true (by first | (with_reducible assumption) | assumption)
                have q229 : (ji4) < (l0.length : Int) := of_decide_eq_true (by first | (with_reducible assumption) | assumption)
                obtain ⟨ad229, e229, hx229_0⟩ := Kd.at_int HR0.out (ji4) p229 q229
                cases e229
                replace p229 := eq_true p229
                replace q229 := eq_true q229
                have p230 : 0 ≤ (a1 : Int) := of_decide_eq_true (by first | (with_reducible assumption) | assumption)
                have q230 : a1 < (l0.length : Int) := of_decide_eq_true (by first | (with_reducible assumption) | assumption)
                obtain ⟨ad230, e230, hx230_0⟩ := Kd.at_int HR0.out a1 p230 q230
                obtain rfl : ad229 = ad230 := (by injection e230)
                replace p230 := eq_true p230
                replace q230 := eq_true q230
                go_wp2
                repeat (go_quiet (fail); try go_wp2)
                go_roundg k1
                case measure => have := HK1.out; omega
                case rel => exact ⟨(wrap64 (x5_1 + 1)), (by first | rfl | (simp; done) | (simp [*]; done)), H', ⟨by have := HK1.out; omega⟩, by repeat (first | exact Drawn0.refl _ | apply Drawn0.step)⟩
              · rw [if_neg c8] at H
                have c8b0 : ((rd l0 (ji4)) == (rd l0 a1)) = false := beq_eq_false_iff_ne.mpr c8
                have c8b1 : ((rd l0 (ji4)) != (rd l0 a1)) = true := bne_iff_ne.mpr c8
                obtain rfl := Option.some.inj H
                have p229 : 0 ≤ ((ji4) : Int) := of_decide_eq_true (by first | (with_reducible assumption) | assumption)
                have q229 : (ji4) < (l0.length : Int) := of_decide_eq_true (by first | (with_reducible assumption) | assumption)
                obtain ⟨ad229, e229, hx229_0⟩ := Kd.at_int HR0.out (ji4) p229 q229
                cases e229
                replace p229 := eq_true p229
                replace q229 := eq_true q229
                have p230 : 0 ≤ (a1 : Int) := of_decide_eq_true (by first | (with_reducible assumption) | assumption)
                have q230 : a1 < (l0.length : Int) := of_decide_eq_true (by first | (with_reducible assumption) | assumption)
                obtain ⟨ad230, e230, hx230_0⟩ := Kd.at_int HR0.out a1 p230 q230
                obtain rfl : ad229 = ad230 := (by injection e230)
                replace p230 := eq_true p230
                replace q230 := eq_true q230
                go_wp2
                repeat (go_quiet (fail); try go_wp2)
                go_ret
                exact ⟨by first | rfl | (simp; done) | (simp only [← hji4] <;> (first | rfl | simp)) | (simp [*]; done), by repeat (first | exact Drawn0.refl _ | apply Drawn0.step)⟩
            · rw [if_neg c7] at H
              exact absurd H (by simp)
          · rw [if_neg c6] at H
            exact absurd H (by simp)
        · rw [if_neg c5] at H
          exact absurd H (by simp)
      · rw [if_neg c3] at H
        have c3b0 : decide ((wrap64 (a1 + x5_1)) < (l0.length : Int)) = false := decide_eq_false c3
        clear c3
        obtain rfl := Option.some.inj H
        go_wp2
        repeat (go_quiet (fail); try go_wp2)
        go_ret
        exact ⟨by first | rfl | (simp; done) | (simp [*]; done), by repeat (first | exact Drawn0.refl _ | apply Drawn0.step)⟩
end Go.Proofs.Ytkeadpichlgagaa.Pl
