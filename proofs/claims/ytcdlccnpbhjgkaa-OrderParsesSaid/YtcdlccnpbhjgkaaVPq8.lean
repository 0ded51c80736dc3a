/- Kept of the text Pq8: what is reached (wip/tools/prune.py). -/
import Derived.Test.YtcdlccnpbhjgkaaVPq0
import Derived.Test.YtcdlccnpbhjgkaaVPq7
namespace Go.Proofs.Ytcdlccnpbhjgkaa.POrderBytes
open Go.RowKit Go.Proofs.YtcdlccnpbhjgkaaW.PrintWords Go.Proofs.YtcdlccnpbhjgkaaW.PrintLast Go.Proofs.YtcdlccnpbhjgkaaW.PrintMore
attribute [local go_sem] max2_int min2_int max_two min_two max_three min_three max_four min_four   -- for this text's walks alone
set_option linter.unusedVariables false
set_option linter.unusedSimpArgs false
mutual
def echelonref19_take.l0 : Nat → List (List Int) → Int → Int → List Int → List (S33) → Option ((List (List Int)) × Int)
  | 0, _, _, _, _, _ => none
  | k + 1, x11, x12, x252000, x252001, x252002 => if x12 < (x252002.length : Int) then (echelonref19_take.l1 k x11 x12 ([] : List Int) 0 x252000 x252001 x252002) else (some (x11, 0))
def echelonref19_take.l1 : Nat → List (List Int) → Int → List Int → Int → Int → List Int → List (S33) → Option ((List (List Int)) × Int)
  | 0, _, _, _, _, _, _, _ => none
  | k + 1, x11, x12, x13, x14, x252000, x252001, x252002 => if 0 ≤ x12 then (if x12 < (x252002.length : Int) then (if x14 < (((rd_T33 x252002 x12).f2).length : Int) then (if 0 ≤ x14 then (if ((rd_T33 ((rd_T33 x252002 x12).f2) x14).f0) ≥ 1099511627776 then (some (([] : List (List Int)), 13)) else (if x13.length < 17592186044416 then (echelonref19_take.l1 k x11 x12 (x13 ++ [wrap64 ((rd_T33 ((rd_T33 x252002 x12).f2) x14).f0)]) (wrap64 (x14 + 1)) x252000 x252001 x252002) else (none))) else (none)) else (if x11.length < 5864062014805 then (echelonref19_take.l0 k (x11 ++ [x13]) (wrap64 (x12 + 1)) x252000 x252001 x252002) else (none))) else (none)) else (none)
end
def echelonref19_take.f (k : Nat) (a0 : Int) (a1 : ByteArray) (l2 : List Int) : Option ((List (List Int)) × Int) := if (l2.length : Int) = 0 then (some (([] : List (List Int)), 11)) else (if 0 < (l2.length : Int) then (if (rd l2 0) = a0 then ((echelonref01_Take.f k a1 l2 1).bind fun bt242 => (if bt242.2.2.2.2 = 0 then (if bt242.2.2.2.1 < (l2.length : Int) then (some (([] : List (List Int)), 12)) else (echelonref19_take.l0 k ([] : List (List Int)) 0 bt242.1 bt242.2.1 bt242.2.2.1)) else (some (([] : List (List Int)), bt242.2.2.2.2)))) else (some (([] : List (List Int)), 13))) else (none))
theorem echelonref19_take.mono_l : ∀ k, (∀ y0 y1 y2 y3 y4, LeO (echelonref19_take.l0 k y0 y1 y2 y3 y4) (echelonref19_take.l0 (k + 1) y0 y1 y2 y3 y4)) ∧ (∀ y0 y1 y2 y3 y4 y5 y6, LeO (echelonref19_take.l1 k y0 y1 y2 y3 y4 y5 y6) (echelonref19_take.l1 (k + 1) y0 y1 y2 y3 y4 y5 y6))
  | 0 => ⟨fun _ _ _ _ _ r h => by simp [echelonref19_take.l0] at h, fun _ _ _ _ _ _ _ r h => by simp [echelonref19_take.l1] at h⟩
  | k + 1 => by
    obtain ⟨ih0, ih1⟩ := echelonref19_take.mono_l k
    refine ⟨?_, ?_⟩
    · intro y0 y1 y2 y3 y4
      unfold echelonref19_take.l0
      repeat' first
      | (with_reducible exact ih0 _ _ _ _ _)
      | (with_reducible exact ih1 _ _ _ _ _ _ _)
      | (with_reducible exact echelonref01_Take.mono _ _ _ _)
      | (with_reducible exact LeO.refl _)
      | (with_reducible exact LeO.none _)
      | (with_reducible refine LeO.ite ?_ ?_)
      | (with_reducible refine LeO.bind ?_ (fun _ => ?_))
      | exact ih0 _ _ _ _ _
      | exact ih1 _ _ _ _ _ _ _
      | exact echelonref01_Take.mono _ _ _ _
      | exact LeO.none _
      | refine LeO.ite ?_ ?_
      | refine LeO.bind ?_ (fun _ => ?_)
    · intro y0 y1 y2 y3 y4 y5 y6
      unfold echelonref19_take.l1
      repeat' first
      | (with_reducible exact ih0 _ _ _ _ _)
      | (with_reducible exact ih1 _ _ _ _ _ _ _)
      | (with_reducible exact echelonref01_Take.mono _ _ _ _)
      | (with_reducible exact LeO.refl _)
      | (with_reducible exact LeO.none _)
      | (with_reducible refine LeO.ite ?_ ?_)
      | (with_reducible refine LeO.bind ?_ (fun _ => ?_))
      | exact ih0 _ _ _ _ _
      | exact ih1 _ _ _ _ _ _ _
      | exact echelonref01_Take.mono _ _ _ _
      | exact LeO.none _
      | refine LeO.ite ?_ ?_
      | refine LeO.bind ?_ (fun _ => ?_)
theorem echelonref19_take.mono : ∀ a0 a1 a2 k, LeO (echelonref19_take.f k a0 a1 a2) (echelonref19_take.f (k + 1) a0 a1 a2) := by
  intro a0 a1 a2 k
  obtain ⟨ih0, ih1⟩ := echelonref19_take.mono_l k
  unfold echelonref19_take.f
  repeat' first
      | (with_reducible exact ih0 _ _ _ _ _)
      | (with_reducible exact ih1 _ _ _ _ _ _ _)
      | (with_reducible exact echelonref01_Take.mono _ _ _ _)
      | (with_reducible exact LeO.refl _)
      | (with_reducible exact LeO.none _)
      | (with_reducible refine LeO.ite ?_ ?_)
      | (with_reducible refine LeO.bind ?_ (fun _ => ?_))
      | exact ih0 _ _ _ _ _
      | exact ih1 _ _ _ _ _ _ _
      | exact echelonref01_Take.mono _ _ _ _
      | exact LeO.none _
      | refine LeO.ite ?_ ?_
      | refine LeO.bind ?_ (fun _ => ?_)
set_option maxHeartbeats 8000000 in
set_option maxRecDepth 100000 in
theorem echelonref19_take.calls (k : Nat) (a0 : Int) (a1 : ByteArray) (A2 : Option Addr) (c2 : Nat) (l2 : List Int) (r1 : List (List Int)) (r2 : Int) (w : World) (hr2 : Kd.C (Kd.int .u8) w A2 l2.length l2) (hc2 : l2.length ≤ c2) (h : echelonref19_take.f k a0 a1 l2 = some (r1, r2)) :
    Calls Try.prog 86 #[.int .u8 a0, .string a1, .slice A2 l2.length c2] w fun e w' => ∃ v0_ : Value, e = .returned (.tuple #[v0_, .int .i64 r2]) ∧ Kd.S (Kd.slice 3 (Kd.int .i64)) 46 w' w.heap.size (fun _ => True) v0_ r1 ∧ Below w.heap.size w w' := by
  have hu33 := Try.underlying33
  have HR2 := Aside0.mk hr2
  have HC2 := Aside0.mk hc2
  clear hr2 hc2
  have HB := Aside0.mk (Below.refl w.heap.size w)
  have H : (if (l2.length : Int) = 0 then (some (([] : List (List Int)), 11)) else (if 0 < (l2.length : Int) then (if (rd l2 0) = a0 then ((echelonref01_Take.f k a1 l2 1).bind fun bt242 => (if bt242.2.2.2.2 = 0 then (if bt242.2.2.2.1 < (l2.length : Int) then (some (([] : List (List Int)), 12)) else (echelonref19_take.l0 k ([] : List (List Int)) 0 bt242.1 bt242.2.1 bt242.2.2.1)) else (some (([] : List (List Int)), bt242.2.2.2.2)))) else (some (([] : List (List Int)), 13))) else (none))) = some (r1, r2) := h
  clear h
  by_cases c4 : (l2.length : Int) = 0
  · rw [if_pos c4] at H
    have c4b0 : ((l2.length : Int) == 0) = true := beq_iff_eq.mpr c4
    have c4b1 : ((l2.length : Int) != 0) = false := bne_eq_false_iff_eq.mpr c4
    clear c4
    simp only [Option.some.injEq, Prod.mk.injEq] at H
    obtain ⟨rfl, rfl⟩ := H
    go_enter Try.func86, Try.ntmps86
    go_wp2
    go_ret2
    exact ⟨_, by first | rfl | (simp [errW_none, errW_some] <;> rfl) | (simp [*, errW_none, errW_some] <;> rfl), by first | exact Kd.S_nil _ _ _ _ _ | exact Kd.N_nil _ _ _ _ _ | exact Kd.V_nil _ _ _ _ _ | exact Kd.Q_nil _ _ _ _ _ | exact Kd.R_nil _ _ _ _ _, by repeat (first | (with_reducible first | exact HB.out | apply below_alloc | apply pw_below_drewN | apply below_drew1) | exact HB.out)⟩
  · rw [if_neg c4] at H
    have c4b0 : ((l2.length : Int) == 0) = false := beq_eq_false_iff_ne.mpr c4
    have c4b1 : ((l2.length : Int) != 0) = true := bne_iff_ne.mpr c4
    have c4b2 : ¬ (l2 = []) := fun h_ => c4 (by rw [h_]; rfl)
    by_cases c5 : 0 < (l2.length : Int)
    · rw [if_pos c5] at H
      have c5b0 : decide (0 < (l2.length : Int)) = true := decide_eq_true c5
      have c5b1 : decide (0 < l2.length) = true := decide_eq_true (by omega)
      clear c5
      by_cases c6 : (rd l2 0) = a0
      · rw [if_pos c6] at H
        have c6b0 : ((rd l2 0) == a0) = true := beq_iff_eq.mpr c6
        have c6b1 : ((rd l2 0) != a0) = false := bne_eq_false_iff_eq.mpr c6
        clear c6
        replace H := Option.bind_eq_some_iff.mp H
        obtain ⟨⟨t242, t243, t246, t249, t250⟩, A70, H⟩ := H
        replace H : (if t250 = 0 then (if t249 < (l2.length : Int) then (some (([] : List (List Int)), 12)) else (echelonref19_take.l0 k ([] : List (List Int)) 0 t242 t243 t246)) else (some (([] : List (List Int)), t250))) = some (r1, r2) := H
        have A7 := Aside0.mk A70
        clear A70
        by_cases c8 : t250 = 0
        · rw [if_pos c8] at H
          have c8b0 : (t250 == 0) = true := beq_iff_eq.mpr c8
          have c8b1 : (t250 != 0) = false := bne_eq_false_iff_eq.mpr c8
          clear c8
          by_cases c9 : t249 < (l2.length : Int)
          · rw [if_pos c9] at H
            have c9b0 : decide (t249 < (l2.length : Int)) = true := decide_eq_true c9
            clear c9
            simp only [Option.some.injEq, Prod.mk.injEq] at H
            obtain ⟨rfl, rfl⟩ := H
            have p241 : 0 ≤ (0 : Int) := (by omega)
            have q241 : 0 < (l2.length : Int) := of_decide_eq_true (by first | (with_reducible assumption) | assumption)
            obtain ⟨ad241, e241, hx241_0⟩ := Kd.at_int HR2.out 0 p241 q241
            cases e241
            have qi241 : (0 < l2.length) = True := eq_true (by omega)
            (try rw [show ((0 : Int)).toNat = 0 from rfl] at hx241_0)
            (try rw [Addr.add_zero'] at hx241_0)
            replace p241 := eq_true p241
            replace q241 := eq_true q241
            go_enter Try.func86, Try.ntmps86
            go_wp2_with (first | ((with_reducible refine gate_callee (f := 102) rfl ?_); refine goesL_ (some 26) rfl rfl Try.func102 (by kernel_rfl) rfl #[.string a1, .slice (some ad241) l2.length c2, .int .i64 1] rfl (by (try simp only [List.map_toArray, List.map_cons, List.map_nil]); first | done | rfl | (simp only [List.length_drop, List.length_take]; rfl)) ?_; (with_reducible refine (echelonref01_Take.calls k a1 _ _ l2 1 t242 t243 t246 t249 t250 _ ?side1 ?side2 A7.out).mono ?_); (case side1 => repeat (first | exact HR2.out | (with_reducible refine Kd.C_alloc ?_ _) | (with_reducible refine Kd.C_drewN ?_ _) | (with_reducible refine Kd.C_drew ?_))); (case side2 => exact HC2.out); rintro e w10 ⟨v244, v247, rfl, ho0, ho1, hb⟩; refine ⟨_, rfl, ?_⟩; have n0_ := Aside0.mk (Kd.R_lower ho0 (below_size (by repeat (first | (with_reducible first | exact HB.out | apply below_alloc | apply pw_below_drewN | apply below_drew1) | exact HB.out)))); have n1_ := Aside0.mk (Kd.R_lower ho1 (below_size (by repeat (first | (with_reducible first | exact HB.out | apply below_alloc | apply pw_below_drewN | apply below_drew1) | exact HB.out)))); have n2_ := Aside0.mk (below_step (by repeat (first | (with_reducible first | exact HB.out | apply below_alloc | apply pw_below_drewN | apply below_drew1) | exact HB.out)) hb); clear HB; have HO245 := n0_; have HO248 := n1_; have HB := n2_; clear n0_ n1_ n2_; (try clear hb); (try clear hb2); (try clear hk); (try clear hi); (try clear ho0); (try clear ho1)) | ((with_reducible refine gate_dst (N := 8) rfl ?_); refine box_event ?hg (N := 8) ?hd (cs := #[.int .u64 0, .slice none 0 0, .slice none 0 0]) (t := 33) ?hr ?_; (case hd => rfl); (case hg => rfl); (case hr => first | (go_simp; done) | (go_simp; rfl)); intro gb251 hg w11 hbox hb; have n0_ := Aside0.mk (Kd.R_below (by (with_reducible repeat (first | apply Kd.R_alloc | apply Kd.R_drewN | apply Kd.R_drew)); exact HO245.out) hb); have n1_ := Aside0.mk (Kd.R_below (Kd.R_elderB (by (with_reducible repeat (first | apply Kd.R_alloc | apply Kd.R_drewN | apply Kd.R_drew)); exact HO248.out) gb251 (Nat.le_of_eq hg.symm)) hb); have n2_ := Aside0.mk (below_step (by repeat (first | (with_reducible first | exact HB.out | apply below_alloc | apply pw_below_drewN | apply below_drew1) | exact HB.out)) hb); have n3_ := Aside0.mk (hbox); have n4_ := Aside0.mk ((by rw [hg]; exact (below_size (by repeat (first | (with_reducible first | exact HB.out | apply below_alloc | apply pw_below_drewN | apply below_drew1) | exact HB.out))) : w.heap.size ≤ gb251)); have n5_ := Aside0.mk ((by rw [hg]; exact (below_size (by repeat (first | (with_reducible first | exact HB.out | apply below_alloc | apply pw_below_drewN | apply below_drew1) | exact HB.out))) : w.heap.size ≤ gb251)); clear HO245; clear HO248; clear HB; have HO245 := n0_; have HO248 := n1_; have HB := n2_; have BK251 := n3_; have GW251 := n4_; have GE251 := n5_; clear n0_ n1_ n2_ n3_ n4_ n5_; clear hb hbox hg; have hcz12_0 : w11.cell? ⟨gb251, 0, none⟩ = some (.int .u64 0) := (blk_cell BK251.out 0).trans rfl; have hcz12_1 : w11.cell? ⟨gb251, 1, none⟩ = some (.slice none 0 0) := (blk_cell BK251.out 1).trans rfl; have hcz12_2 : w11.cell? ⟨gb251, 2, none⟩ = some (.slice none 0 0) := (blk_cell BK251.out 2).trans rfl; have hfz12_0 := blk_frozen BK251.out 0; have hfz12_1 := blk_frozen BK251.out 1; have hfz12_2 := blk_frozen BK251.out 2; obtain ⟨Ao13, co13, eo13⟩ := Kd.R_slice HO245.out; subst eo13; obtain ⟨Ao14, co14, eo14⟩ := Kd.R_slice HO248.out; subst eo14))
            go_ret2
            exact ⟨_, by first | rfl | (simp [errW_none, errW_some] <;> rfl) | (simp [*, errW_none, errW_some] <;> rfl), by first | exact Kd.S_nil _ _ _ _ _ | exact Kd.N_nil _ _ _ _ _ | exact Kd.V_nil _ _ _ _ _ | exact Kd.Q_nil _ _ _ _ _ | exact Kd.R_nil _ _ _ _ _, by repeat (first | (with_reducible first | exact HB.out | apply below_alloc | apply pw_below_drewN | apply below_drew1 | refine below_set ?_ GE251.out) | exact HB.out)⟩
          · rw [if_neg c9] at H
            have c9b0 : decide (t249 < (l2.length : Int)) = false := decide_eq_false c9
            clear c9
            have H' := Aside0.mk H
            clear H
            have p241 : 0 ≤ (0 : Int) := (by omega)
            have q241 : 0 < (l2.length : Int) := of_decide_eq_true (by first | (with_reducible assumption) | assumption)
            obtain ⟨ad241, e241, hx241_0⟩ := Kd.at_int HR2.out 0 p241 q241
            cases e241
            have qi241 : (0 < l2.length) = True := eq_true (by omega)
            (try rw [show ((0 : Int)).toNat = 0 from rfl] at hx241_0)
            (try rw [Addr.add_zero'] at hx241_0)
            replace p241 := eq_true p241
            replace q241 := eq_true q241
            go_enter Try.func86, Try.ntmps86
            go_wp2_with (first | ((with_reducible refine gate_callee (f := 102) rfl ?_); refine goesL_ (some 26) rfl rfl Try.func102 (by kernel_rfl) rfl #[.string a1, .slice (some ad241) l2.length c2, .int .i64 1] rfl (by (try simp only [List.map_toArray, List.map_cons, List.map_nil]); first | done | rfl | (simp only [List.length_drop, List.length_take]; rfl)) ?_; (with_reducible refine (echelonref01_Take.calls k a1 _ _ l2 1 t242 t243 t246 t249 t250 _ ?side1 ?side2 A7.out).mono ?_); (case side1 => repeat (first | exact HR2.out | (with_reducible refine Kd.C_alloc ?_ _) | (with_reducible refine Kd.C_drewN ?_ _) | (with_reducible refine Kd.C_drew ?_))); (case side2 => exact HC2.out); rintro e w15 ⟨v244, v247, rfl, ho0, ho1, hb⟩; refine ⟨_, rfl, ?_⟩; have n0_ := Aside0.mk (Kd.R_lower ho0 (below_size (by repeat (first | (with_reducible first | exact HB.out | apply below_alloc | apply pw_below_drewN | apply below_drew1) | exact HB.out)))); have n1_ := Aside0.mk (Kd.R_lower ho1 (below_size (by repeat (first | (with_reducible first | exact HB.out | apply below_alloc | apply pw_below_drewN | apply below_drew1) | exact HB.out)))); have n2_ := Aside0.mk (below_step (by repeat (first | (with_reducible first | exact HB.out | apply below_alloc | apply pw_below_drewN | apply below_drew1) | exact HB.out)) hb); clear HB; have HO245 := n0_; have HO248 := n1_; have HB := n2_; clear n0_ n1_ n2_; (try clear hb); (try clear hb2); (try clear hk); (try clear hi); (try clear ho0); (try clear ho1)) | ((with_reducible refine gate_dst (N := 8) rfl ?_); refine box_event ?hg (N := 8) ?hd (cs := #[.int .u64 0, .slice none 0 0, .slice none 0 0]) (t := 33) ?hr ?_; (case hd => rfl); (case hg => rfl); (case hr => first | (go_simp; done) | (go_simp; rfl)); intro gb251 hg w16 hbox hb; have n0_ := Aside0.mk (Kd.R_below (by (with_reducible repeat (first | apply Kd.R_alloc | apply Kd.R_drewN | apply Kd.R_drew)); exact HO245.out) hb); have n1_ := Aside0.mk (Kd.R_below (Kd.R_elderB (by (with_reducible repeat (first | apply Kd.R_alloc | apply Kd.R_drewN | apply Kd.R_drew)); exact HO248.out) gb251 (Nat.le_of_eq hg.symm)) hb); have n2_ := Aside0.mk (below_step (by repeat (first | (with_reducible first | exact HB.out | apply below_alloc | apply pw_below_drewN | apply below_drew1) | exact HB.out)) hb); have n3_ := Aside0.mk (hbox); have n4_ := Aside0.mk ((by rw [hg]; exact (below_size (by repeat (first | (with_reducible first | exact HB.out | apply below_alloc | apply pw_below_drewN | apply below_drew1) | exact HB.out))) : w.heap.size ≤ gb251)); have n5_ := Aside0.mk ((by rw [hg]; exact (below_size (by repeat (first | (with_reducible first | exact HB.out | apply below_alloc | apply pw_below_drewN | apply below_drew1) | exact HB.out))) : w.heap.size ≤ gb251)); clear HO245; clear HO248; clear HB; have HO245 := n0_; have HO248 := n1_; have HB := n2_; have BK251 := n3_; have GW251 := n4_; have GE251 := n5_; clear n0_ n1_ n2_ n3_ n4_ n5_; clear hb hbox hg; have hcz17_0 : w16.cell? ⟨gb251, 0, none⟩ = some (.int .u64 0) := (blk_cell BK251.out 0).trans rfl; have hcz17_1 : w16.cell? ⟨gb251, 1, none⟩ = some (.slice none 0 0) := (blk_cell BK251.out 1).trans rfl; have hcz17_2 : w16.cell? ⟨gb251, 2, none⟩ = some (.slice none 0 0) := (blk_cell BK251.out 2).trans rfl; have hfz17_0 := blk_frozen BK251.out 0; have hfz17_1 := blk_frozen BK251.out 1; have hfz17_2 := blk_frozen BK251.out 2; obtain ⟨Ao18, co18, eo18⟩ := Kd.R_slice HO245.out; subst eo18; obtain ⟨Ao19, co19, eo19⟩ := Kd.R_slice HO248.out; subst eo19))
            go_loopg [11, 12] k (fun kq v11 v12 w' => ∃ (x11_1 : List (List Int)) (x12_1 : Int), v12 = .int .i64 x12_1 ∧ Aside0 (echelonref19_take.l0 kq x11_1 x12_1 t242 t243 t246 = some (r1, r2)) ∧ Aside0 (kq ≤ k) ∧ Aside0 (Kd.S (Kd.slice 3 (Kd.int .i64)) 46 w' w.heap.size (fun _ => True) v11 x11_1) ∧ Aside0 (Kd.R (Kd.int .u8) 5 w' w.heap.size (fun _ => True) (.slice Ao18 t243.length co18) t243) ∧ Aside0 (Kd.R k33 33 w' w.heap.size (fun k_ => some k_ ≠ ((.slice Ao18 t243.length co18) : Value).ownBlock ∧ k_ ≠ gb251) (.slice Ao19 t246.length co19) t246) ∧ Aside0 (w'.heap[gb251]? = some (.cells #[.int .u64 t242, (.slice Ao18 t243.length co18), (.slice Ao19 t246.length co19)] 33 (0, 0))) ∧ Aside0 (Below w.heap.size w w'))
            case atStart => exact ⟨(([] : List (List Int))), (0), (by first | rfl | (simp; done) | (simp [*]; done)), H', ⟨Nat.le_refl _⟩, ⟨by first | exact Kd.S_nil _ _ _ _ _ | exact Kd.N_nil _ _ _ _ _ | exact Kd.V_nil _ _ _ _ _ | exact Kd.Q_nil _ _ _ _ _ | exact Kd.R_nil _ _ _ _ _⟩, ⟨by (with_reducible repeat (first | apply Kd.R_alloc | apply Kd.R_drewN | apply Kd.R_drew)); exact Kd.R_mono (Kd.R_far (p := ⟨gb251, 2, none⟩) (Kd.R_far (p := ⟨gb251, 1, none⟩) (Kd.R_far (p := ⟨gb251, 0, none⟩) (Kd.R_types HO245.out BK251.out (by decide)) (fun _ hk => hk.2) (.int .u64 t242)) (fun _ hk => hk.2) (.slice Ao18 t243.length co18)) (fun _ hk => hk.2) (.slice Ao19 t246.length co19)) (fun _ hk => trivial)⟩, ⟨by (with_reducible repeat (first | apply Kd.R_alloc | apply Kd.R_drewN | apply Kd.R_drew)); exact Kd.R_mono (Kd.R_far (p := ⟨gb251, 2, none⟩) (Kd.R_far (p := ⟨gb251, 1, none⟩) (Kd.R_far (p := ⟨gb251, 0, none⟩) (Kd.R_mono HO248.out (fun k_ hk => (⟨hk, hk.2⟩ : _ ∧ k_ ≠ gb251))) (fun _ hk => hk.2) (.int .u64 t242)) (fun _ hk => hk.2) (.slice Ao18 t243.length co18)) (fun _ hk => hk.2) (.slice Ao19 t246.length co19)) (fun _ hk => ⟨hk.1.1, hk.1.2⟩)⟩, ⟨by (with_reducible repeat (first | refine blk_drewN ?_ _ | refine blk_drew ?_ | refine blk_alloc ?_ _)); refine blk_put (cs := #[.int .u64 t242, .slice Ao18 t243.length co18, .slice none 0 0]) ?_ 2 _ rfl; (with_reducible repeat (first | refine blk_drewN ?_ _ | refine blk_drew ?_ | refine blk_alloc ?_ _)); refine blk_put (cs := #[.int .u64 t242, .slice none 0 0, .slice none 0 0]) ?_ 1 _ rfl; (with_reducible repeat (first | refine blk_drewN ?_ _ | refine blk_drew ?_ | refine blk_alloc ?_ _)); refine blk_put (cs := #[.int .u64 0, .slice none 0 0, .slice none 0 0]) ?_ 0 _ rfl; (with_reducible repeat (first | refine blk_drewN ?_ _ | refine blk_drew ?_ | refine blk_alloc ?_ _)); exact BK251.out⟩, ⟨by repeat (first | (with_reducible first | exact HB.out | apply below_alloc | apply pw_below_drewN | apply below_drew1 | refine below_set ?_ GE251.out) | exact HB.out)⟩⟩
            case round =>
              clear H'
              try clear c1
              try clear c2
              try clear p2
              try clear q2
              try clear hx2
              try clear qi2
              try clear c4
              try clear c4b0
              try clear c4b1
              try clear c4b2
              try clear c5
              try clear c5b0
              try clear c5b1
              try clear c6
              try clear c6b0
              try clear c6b1
              try clear c8
              try clear c8b0
              try clear c8b1
              try clear c9
              try clear c9b0
              try clear c10
              try clear hcz12_0
              try clear hcz12_1
              try clear hcz12_2
              try clear hcz17_0
              try clear hcz17_1
              try clear hcz17_2
              try clear hfz12_0
              try clear hfz12_1
              try clear hfz12_2
              try clear hfz17_0
              try clear hfz17_1
              try clear hfz17_2
              try clear hx241_0
              try clear p241
              try clear q241
              obtain ⟨x11_1, x12_1, rfl, HA, HK1, HO_11, HO_252001, HO_252002, BK251, HB⟩ := hrel
              cases gk with
              | zero => exact absurd HA.out (by simp [echelonref19_take.l0])
              | succ k1 =>
                have H := HA.out
                clear HA
                simp only [echelonref19_take.l0] at H
                by_cases c20 : x12_1 < (t246.length : Int)
                · rw [if_pos c20] at H
                  have c20b0 : decide (x12_1 < (t246.length : Int)) = true := decide_eq_true c20
                  clear c20
                  have H' := Aside0.mk H
                  clear H
                  have hcz21_0 : wr.cell? ⟨gb251, 0, none⟩ = some (.int .u64 t242) := (blk_cell BK251.out 0).trans rfl
                  have hcz21_1 : wr.cell? ⟨gb251, 1, none⟩ = some (.slice Ao18 t243.length co18) := (blk_cell BK251.out 1).trans rfl
                  have hcz21_2 : wr.cell? ⟨gb251, 2, none⟩ = some (.slice Ao19 t246.length co19) := (blk_cell BK251.out 2).trans rfl
                  have hfz21_0 := blk_frozen BK251.out 0
                  have hfz21_1 := blk_frozen BK251.out 1
                  have hfz21_2 := blk_frozen BK251.out 2
                  go_wp2
                  go_loopg [13, 14] k1 (fun kq v13 v14 w' => ∃ (x13_2 : List Int) (x14_2 : Int), v14 = .int .i64 x14_2 ∧ Aside0 (echelonref19_take.l1 kq x11_1 x12_1 x13_2 x14_2 t242 t243 t246 = some (r1, r2)) ∧ Aside0 (kq ≤ k1) ∧ Aside0 (Kd.S (Kd.slice 3 (Kd.int .i64)) 46 w' w.heap.size (fun k_ => some k_ ≠ (v13 : Value).ownBlock) u11 x11_1) ∧ Aside0 (Kd.R (Kd.int .i64) 3 w' w.heap.size (fun _ => True) v13 x13_2) ∧ Aside0 (Kd.R (Kd.int .u8) 5 w' w.heap.size (fun _ => True) (.slice Ao18 t243.length co18) t243) ∧ Aside0 (Kd.R k33 33 w' w.heap.size (fun k_ => some k_ ≠ ((.slice Ao18 t243.length co18) : Value).ownBlock ∧ k_ ≠ gb251) (.slice Ao19 t246.length co19) t246) ∧ Aside0 (w'.heap[gb251]? = some (.cells #[.int .u64 t242, (.slice Ao18 t243.length co18), (.slice Ao19 t246.length co19)] 33 (0, 0))) ∧ Aside0 (Below w.heap.size w w'))
                  case atStart => exact ⟨(([] : List Int)), (0), (by first | rfl | (simp; done) | (simp [*]; done)), H', ⟨Nat.le_refl _⟩, ⟨by (with_reducible repeat (first | apply Kd.S_alloc | apply Kd.S_drewN | apply Kd.S_drew)); exact Kd.S_mono HO_11.out (fun _ hk => (by simp [Value.ownBlock]))⟩, ⟨by first | exact Kd.R_nil _ _ _ _ _ | exact Kd.N_nil _ _ _ _ _ | exact Kd.V_nil _ _ _ _ _ | exact Kd.Q_nil _ _ _ _ _ | exact Kd.S_nil _ _ _ _ _⟩, ⟨by (with_reducible repeat (first | apply Kd.R_alloc | apply Kd.R_drewN | apply Kd.R_drew)); exact HO_252001.out⟩, ⟨by (with_reducible repeat (first | apply Kd.R_alloc | apply Kd.R_drewN | apply Kd.R_drew)); exact HO_252002.out⟩, ⟨by (with_reducible repeat (first | refine blk_drewN ?_ _ | refine blk_drew ?_ | refine blk_alloc ?_ _)); exact BK251.out⟩, ⟨by repeat (first | (with_reducible first | exact HB.out | apply below_alloc | apply pw_below_drewN | apply below_drew1 | refine below_set ?_ GE251.out) | exact HB.out)⟩⟩
                  case round =>
                    clear H'
                    try clear c1
                    try clear c2
                    try clear p2
                    try clear q2
                    try clear hx2
                    try clear qi2
                    try clear c4
                    try clear c4b0
                    try clear c4b1
                    try clear c4b2
                    try clear c5
                    try clear c5b0
                    try clear c5b1
                    try clear c6
                    try clear c6b0
                    try clear c6b1
                    try clear c8
                    try clear c8b0
                    try clear c8b1
                    try clear c9
                    try clear c9b0
                    try clear c10
                    try clear c20
                    try clear c20b0
                    try clear hcz12_0
                    try clear hcz12_1
                    try clear hcz12_2
                    try clear hcz17_0
                    try clear hcz17_1
                    try clear hcz17_2
                    try clear hcz21_0
                    try clear hcz21_1
                    try clear hcz21_2
                    try clear hfz12_0
                    try clear hfz12_1
                    try clear hfz12_2
                    try clear hfz17_0
                    try clear hfz17_1
                    try clear hfz17_2
                    try clear hfz21_0
                    try clear hfz21_1
                    try clear hfz21_2
                    try clear hx241_0
                    try clear p2
                    try clear p241
                    try clear q2
                    try clear q241
                    obtain ⟨x13_2, x14_2, rfl, HA, HK2, HO_11, HO_13, HO_252001, HO_252002, BK251, HB⟩ := hrel
                    cases gk with
                    | zero => exact absurd HA.out (by simp [echelonref19_take.l1])
                    | succ k2 =>
                      have H := HA.out
                      clear HA
                      simp only [echelonref19_take.l1] at H
                      by_cases c22 : 0 ≤ x12_1
                      · rw [if_pos c22] at H
                        have c22b0 : decide (0 ≤ x12_1) = true := decide_eq_true c22
                        clear c22
                        by_cases c23 : x12_1 < (t246.length : Int)
                        · rw [if_pos c23] at H
                          have c23b0 : decide (x12_1 < (t246.length : Int)) = true := decide_eq_true c23
                          clear c23
                          by_cases c24 : x14_2 < (((rd_T33 t246 x12_1).f2).length : Int)
                          · rw [if_pos c24] at H
                            have c24b0 : decide (x14_2 < (((rd_T33 t246 x12_1).f2).length : Int)) = true := decide_eq_true c24
                            clear c24
                            by_cases c25 : 0 ≤ x14_2
                            · rw [if_pos c25] at H
                              have c25b0 : decide (0 ≤ x14_2) = true := decide_eq_true c25
                              clear c25
                              by_cases c26 : ((rd_T33 ((rd_T33 t246 x12_1).f2) x14_2).f0) ≥ 1099511627776
                              · rw [if_pos c26] at H
                                have c26b0 : decide (1099511627776 ≤ ((rd_T33 ((rd_T33 t246 x12_1).f2) x14_2).f0)) = true := decide_eq_true c26
                                clear c26
                                simp only [Option.some.injEq, Prod.mk.injEq] at H
                                obtain ⟨rfl, rfl⟩ := H
                                have hcz27_0 : wr.cell? ⟨gb251, 0, none⟩ = some (.int .u64 t242) := (blk_cell BK251.out 0).trans rfl
                                have hcz27_1 : wr.cell? ⟨gb251, 1, none⟩ = some (.slice Ao18 t243.length co18) := (blk_cell BK251.out 1).trans rfl
                                have hcz27_2 : wr.cell? ⟨gb251, 2, none⟩ = some (.slice Ao19 t246.length co19) := (blk_cell BK251.out 2).trans rfl
                                have hfz27_0 := blk_frozen BK251.out 0
                                have hfz27_1 := blk_frozen BK251.out 1
                                have hfz27_2 := blk_frozen BK251.out 2
                                have p252 : 0 ≤ (x12_1 : Int) := of_decide_eq_true (by first | (with_reducible assumption) | assumption)
                                have q252 : x12_1 < (t246.length : Int) := of_decide_eq_true (by first | (with_reducible assumption) | assumption)
                                obtain ⟨ad252, A252_1, c252_1, A252_2, c252_2, e252, hx252_0, hx252_1, hx252_2, hl252_1, hi252_1, hl252_2, hi252_2⟩ := at_T33 (Kd.R_reads' HO_252002.out).2.2 x12_1 p252 q252
                                cases e252
                                obtain ⟨ce252, hce252, hMe252, hcc252⟩ := Kd.R_get HO_252002.out z33 x12_1 p252 (by first | exact q252 | exact of_decide_eq_true (by first | (with_reducible assumption) | assumption) | (have e_ := (Kd.R_reads' HO_252002.out).1; omega))
                                obtain ⟨ve252_1, ve252_2, rfl, ge252_1, ge252_2⟩ := k33_openM hMe252
                                have hv252_1 := hcc252 1 _ rfl
                                rw [add_field _ _ 1 (by omega)] at hv252_1
                                replace hv252_1 := Option.some.inj (hv252_1.symm.trans hx252_1)
                                rw [hv252_1] at ge252_1
                                have HL252_1 := Aside0.mk (show Kd.R (Kd.int .u8) 5 _ _ _ _ ((rd_T33 t246 x12_1).f1) from ge252_1)
                                clear hv252_1 ge252_1
                                have hv252_2 := hcc252 2 _ rfl
                                rw [add_field _ _ 2 (by omega)] at hv252_2
                                replace hv252_2 := Option.some.inj (hv252_2.symm.trans hx252_2)
                                rw [hv252_2] at ge252_2
                                have HL252_2 := Aside0.mk (show Kd.R k33 33 _ _ _ _ ((rd_T33 t246 x12_1).f2) from ge252_2)
                                clear hv252_2 ge252_2
                                clear hcc252 hce252
                                have HR252_1 := Aside0.mk hi252_1
                                have HC252_1 := Aside0.mk hl252_1
                                clear hi252_1 hl252_1
                                have HR252_2 := Aside0.mk hi252_2
                                have HC252_2 := Aside0.mk hl252_2
                                clear hi252_2 hl252_2
                                replace p252 := eq_true p252
                                replace q252 := eq_true q252
                                have p253 : 0 ≤ (x12_1 : Int) := of_decide_eq_true (by first | (with_reducible assumption) | assumption)
                                have q253 : x12_1 < (t246.length : Int) := of_decide_eq_true (by first | (with_reducible assumption) | assumption)
                                obtain ⟨ad253, A253_1, c253_1, A253_2, c253_2, e253, hx253_0, hx253_1, hx253_2, hl253_1, hi253_1, hl253_2, hi253_2⟩ := at_T33 (Kd.R_reads' HO_252002.out).2.2 x12_1 p253 q253
                                obtain rfl : ad252 = ad253 := (by injection e253)
                                obtain ⟨ce253, hce253, hMe253, hcc253⟩ := Kd.R_get HO_252002.out z33 x12_1 p253 (by first | exact q253 | exact of_decide_eq_true (by first | (with_reducible assumption) | assumption) | (have e_ := (Kd.R_reads' HO_252002.out).1; omega))
                                obtain ⟨ve253_1, ve253_2, rfl, ge253_1, ge253_2⟩ := k33_openM hMe253
                                have hv253_1 := hcc253 1 _ rfl
                                rw [add_field _ _ 1 (by omega)] at hv253_1
                                replace hv253_1 := Option.some.inj (hv253_1.symm.trans hx253_1)
                                rw [hv253_1] at ge253_1
                                have HL253_1 := Aside0.mk (show Kd.R (Kd.int .u8) 5 _ _ _ _ ((rd_T33 t246 x12_1).f1) from ge253_1)
                                clear hv253_1 ge253_1
                                have hv253_2 := hcc253 2 _ rfl
                                rw [add_field _ _ 2 (by omega)] at hv253_2
                                replace hv253_2 := Option.some.inj (hv253_2.symm.trans hx253_2)
                                rw [hv253_2] at ge253_2
                                have HL253_2 := Aside0.mk (show Kd.R k33 33 _ _ _ _ ((rd_T33 t246 x12_1).f2) from ge253_2)
                                clear hv253_2 ge253_2
                                clear hcc253 hce253
                                have HR253_1 := Aside0.mk hi253_1
                                have HC253_1 := Aside0.mk hl253_1
                                clear hi253_1 hl253_1
                                have HR253_2 := Aside0.mk hi253_2
                                have HC253_2 := Aside0.mk hl253_2
                                clear hi253_2 hl253_2
                                replace p253 := eq_true p253
                                replace q253 := eq_true q253
                                have ea_ := Option.some.inj (hx252_1.symm.trans hx253_1)
                                injection ea_ with ea_ en_ ec_
                                subst ea_
                                subst ec_
                                clear en_
                                have ea_ := Option.some.inj (hx252_2.symm.trans hx253_2)
                                injection ea_ with ea_ en_ ec_
                                subst ea_
                                subst ec_
                                clear en_
                                have p254 : 0 ≤ (x14_2 : Int) := of_decide_eq_true (by first | (with_reducible assumption) | assumption)
                                have q254 : x14_2 < (((rd_T33 t246 x12_1).f2).length : Int) := of_decide_eq_true (by first | (with_reducible assumption) | assumption)
                                obtain ⟨ad254, A254_1, c254_1, A254_2, c254_2, e254, hx254_0, hx254_1, hx254_2, hl254_1, hi254_1, hl254_2, hi254_2⟩ := at_T33 (by repeat (first | (with_reducible exact HR253_2.out) | (with_reducible refine Kd.C_alloc ?_ _) | (with_reducible refine Kd.C_drewN ?_ _) | (with_reducible refine Kd.C_drew ?_) | exact HR253_2.out)) x14_2 p254 q254
                                cases e254
                                obtain ⟨ce254, hce254, hMe254, hcc254⟩ := Kd.R_get HL253_2.out z33 x14_2 p254 (by first | exact q254 | exact of_decide_eq_true (by first | (with_reducible assumption) | assumption) | (have e_ := (Kd.R_reads' HL253_2.out).1; omega))
                                obtain ⟨ve254_1, ve254_2, rfl, ge254_1, ge254_2⟩ := k33_openM hMe254
                                have hv254_1 := hcc254 1 _ rfl
                                rw [add_field _ _ 1 (by omega)] at hv254_1
                                replace hv254_1 := Option.some.inj (hv254_1.symm.trans hx254_1)
                                rw [hv254_1] at ge254_1
                                have HL254_1 := Aside0.mk (show Kd.R (Kd.int .u8) 5 _ _ _ _ ((rd_T33 ((rd_T33 t246 x12_1).f2) x14_2).f1) from ge254_1)
                                clear hv254_1 ge254_1
                                have hv254_2 := hcc254 2 _ rfl
                                rw [add_field _ _ 2 (by omega)] at hv254_2
                                replace hv254_2 := Option.some.inj (hv254_2.symm.trans hx254_2)
                                rw [hv254_2] at ge254_2
                                have HL254_2 := Aside0.mk (show Kd.R k33 33 _ _ _ _ ((rd_T33 ((rd_T33 t246 x12_1).f2) x14_2).f2) from ge254_2)
                                clear hv254_2 ge254_2
                                clear hcc254 hce254
                                have HR254_1 := Aside0.mk hi254_1
                                have HC254_1 := Aside0.mk hl254_1
                                clear hi254_1 hl254_1
                                have HR254_2 := Aside0.mk hi254_2
                                have HC254_2 := Aside0.mk hl254_2
                                clear hi254_2 hl254_2
                                replace p254 := eq_true p254
                                replace q254 := eq_true q254
                                go_wp2
                                go_ret2
                                exact ⟨_, by first | rfl | (simp [errW_none, errW_some] <;> rfl) | (simp [*, errW_none, errW_some] <;> rfl), by first | exact Kd.S_nil _ _ _ _ _ | exact Kd.N_nil _ _ _ _ _ | exact Kd.V_nil _ _ _ _ _ | exact Kd.Q_nil _ _ _ _ _ | exact Kd.R_nil _ _ _ _ _, by repeat (first | (with_reducible first | exact HB.out | apply below_alloc | apply pw_below_drewN | apply below_drew1 | refine below_set ?_ GE251.out) | exact HB.out)⟩
                              · rw [if_neg c26] at H
                                have c26b0 : decide (1099511627776 ≤ ((rd_T33 ((rd_T33 t246 x12_1).f2) x14_2).f0)) = false := decide_eq_false c26
                                clear c26
                                by_cases c28 : x13_2.length < 17592186044416
                                · rw [if_pos c28] at H
                                  have LMc28 := Aside0.mk c28
                                  clear c28
                                  obtain ⟨y257, hy257⟩ : ∃ y_ : List Int, y_ = (x13_2 ++ [wrap64 ((rd_T33 ((rd_T33 t246 x12_1).f2) x14_2).f0)]) := ⟨_, rfl⟩
                                  replace H : (echelonref19_take.l1 k2 x11_1 x12_1 y257 (wrap64 (x14_2 + 1)) t242 t243 t246) = some (r1, r2) := by first | (rw [hy257]; with_reducible exact H) | (have H2_ := (Option.bind_some _ _).symm.trans H; rw [hy257]; with_reducible exact H2_) | (have H2_ := (Option.bind_some _ _).symm.trans H; with_reducible exact H2_) | with_reducible exact H | (rw [hy257]; exact H) | exact H
                                  have Ny257 := Aside0.mk hy257
                                  clear hy257
                                  have H' := Aside0.mk H
                                  clear H
                                  have hcz29_0 : wr.cell? ⟨gb251, 0, none⟩ = some (.int .u64 t242) := (blk_cell BK251.out 0).trans rfl
                                  have hcz29_1 : wr.cell? ⟨gb251, 1, none⟩ = some (.slice Ao18 t243.length co18) := (blk_cell BK251.out 1).trans rfl
                                  have hcz29_2 : wr.cell? ⟨gb251, 2, none⟩ = some (.slice Ao19 t246.length co19) := (blk_cell BK251.out 2).trans rfl
                                  have hfz29_0 := blk_frozen BK251.out 0
                                  have hfz29_1 := blk_frozen BK251.out 1
                                  have hfz29_2 := blk_frozen BK251.out 2
                                  have p252 : 0 ≤ (x12_1 : Int) := of_decide_eq_true (by first | (with_reducible assumption) | assumption)
                                  have q252 : x12_1 < (t246.length : Int) := of_decide_eq_true (by first | (with_reducible assumption) | assumption)
                                  obtain ⟨ad252, A252_1, c252_1, A252_2, c252_2, e252, hx252_0, hx252_1, hx252_2, hl252_1, hi252_1, hl252_2, hi252_2⟩ := at_T33 (Kd.R_reads' HO_252002.out).2.2 x12_1 p252 q252
                                  cases e252
                                  obtain ⟨ce252, hce252, hMe252, hcc252⟩ := Kd.R_get HO_252002.out z33 x12_1 p252 (by first | exact q252 | exact of_decide_eq_true (by first | (with_reducible assumption) | assumption) | (have e_ := (Kd.R_reads' HO_252002.out).1; omega))
                                  obtain ⟨ve252_1, ve252_2, rfl, ge252_1, ge252_2⟩ := k33_openM hMe252
                                  have hv252_1 := hcc252 1 _ rfl
                                  rw [add_field _ _ 1 (by omega)] at hv252_1
                                  replace hv252_1 := Option.some.inj (hv252_1.symm.trans hx252_1)
                                  rw [hv252_1] at ge252_1
                                  have HL252_1 := Aside0.mk (show Kd.R (Kd.int .u8) 5 _ _ _ _ ((rd_T33 t246 x12_1).f1) from ge252_1)
                                  clear hv252_1 ge252_1
                                  have hv252_2 := hcc252 2 _ rfl
                                  rw [add_field _ _ 2 (by omega)] at hv252_2
                                  replace hv252_2 := Option.some.inj (hv252_2.symm.trans hx252_2)
                                  rw [hv252_2] at ge252_2
                                  have HL252_2 := Aside0.mk (show Kd.R k33 33 _ _ _ _ ((rd_T33 t246 x12_1).f2) from ge252_2)
                                  clear hv252_2 ge252_2
                                  clear hcc252 hce252
                                  have HR252_1 := Aside0.mk hi252_1
                                  have HC252_1 := Aside0.mk hl252_1
                                  clear hi252_1 hl252_1
                                  have HR252_2 := Aside0.mk hi252_2
                                  have HC252_2 := Aside0.mk hl252_2
                                  clear hi252_2 hl252_2
                                  replace p252 := eq_true p252
                                  replace q252 := eq_true q252
                                  have p253 : 0 ≤ (x12_1 : Int) := of_decide_eq_true (by first | (with_reducible assumption) | assumption)
                                  have q253 : x12_1 < (t246.length : Int) := of_decide_eq_true (by first | (with_reducible assumption) | assumption)
                                  obtain ⟨ad253, A253_1, c253_1, A253_2, c253_2, e253, hx253_0, hx253_1, hx253_2, hl253_1, hi253_1, hl253_2, hi253_2⟩ := at_T33 (Kd.R_reads' HO_252002.out).2.2 x12_1 p253 q253
                                  obtain rfl : ad252 = ad253 := (by injection e253)
                                  obtain ⟨ce253, hce253, hMe253, hcc253⟩ := Kd.R_get HO_252002.out z33 x12_1 p253 (by first | exact q253 | exact of_decide_eq_true (by first | (with_reducible assumption) | assumption) | (have e_ := (Kd.R_reads' HO_252002.out).1; omega))
                                  obtain ⟨ve253_1, ve253_2, rfl, ge253_1, ge253_2⟩ := k33_openM hMe253
                                  have hv253_1 := hcc253 1 _ rfl
                                  rw [add_field _ _ 1 (by omega)] at hv253_1
                                  replace hv253_1 := Option.some.inj (hv253_1.symm.trans hx253_1)
                                  rw [hv253_1] at ge253_1
                                  have HL253_1 := Aside0.mk (show Kd.R (Kd.int .u8) 5 _ _ _ _ ((rd_T33 t246 x12_1).f1) from ge253_1)
                                  clear hv253_1 ge253_1
                                  have hv253_2 := hcc253 2 _ rfl
                                  rw [add_field _ _ 2 (by omega)] at hv253_2
                                  replace hv253_2 := Option.some.inj (hv253_2.symm.trans hx253_2)
                                  rw [hv253_2] at ge253_2
                                  have HL253_2 := Aside0.mk (show Kd.R k33 33 _ _ _ _ ((rd_T33 t246 x12_1).f2) from ge253_2)
                                  clear hv253_2 ge253_2
                                  clear hcc253 hce253
                                  have HR253_1 := Aside0.mk hi253_1
                                  have HC253_1 := Aside0.mk hl253_1
                                  clear hi253_1 hl253_1
                                  have HR253_2 := Aside0.mk hi253_2
                                  have HC253_2 := Aside0.mk hl253_2
                                  clear hi253_2 hl253_2
                                  replace p253 := eq_true p253
                                  replace q253 := eq_true q253
                                  have ea_ := Option.some.inj (hx252_1.symm.trans hx253_1)
                                  injection ea_ with ea_ en_ ec_
                                  subst ea_
                                  subst ec_
                                  clear en_
                                  have ea_ := Option.some.inj (hx252_2.symm.trans hx253_2)
                                  injection ea_ with ea_ en_ ec_
                                  subst ea_
                                  subst ec_
                                  clear en_
                                  have p254 : 0 ≤ (x14_2 : Int) := of_decide_eq_true (by first | (with_reducible assumption) | assumption)
                                  have q254 : x14_2 < (((rd_T33 t246 x12_1).f2).length : Int) := of_decide_eq_true (by first | (with_reducible assumption) | assumption)
                                  obtain ⟨ad254, A254_1, c254_1, A254_2, c254_2, e254, hx254_0, hx254_1, hx254_2, hl254_1, hi254_1, hl254_2, hi254_2⟩ := at_T33 (by repeat (first | (with_reducible exact HR253_2.out) | (with_reducible refine Kd.C_alloc ?_ _) | (with_reducible refine Kd.C_drewN ?_ _) | (with_reducible refine Kd.C_drew ?_) | exact HR253_2.out)) x14_2 p254 q254
                                  cases e254
                                  obtain ⟨ce254, hce254, hMe254, hcc254⟩ := Kd.R_get HL253_2.out z33 x14_2 p254 (by first | exact q254 | exact of_decide_eq_true (by first | (with_reducible assumption) | assumption) | (have e_ := (Kd.R_reads' HL253_2.out).1; omega))
                                  obtain ⟨ve254_1, ve254_2, rfl, ge254_1, ge254_2⟩ := k33_openM hMe254
                                  have hv254_1 := hcc254 1 _ rfl
                                  rw [add_field _ _ 1 (by omega)] at hv254_1
                                  replace hv254_1 := Option.some.inj (hv254_1.symm.trans hx254_1)
                                  rw [hv254_1] at ge254_1
                                  have HL254_1 := Aside0.mk (show Kd.R (Kd.int .u8) 5 _ _ _ _ ((rd_T33 ((rd_T33 t246 x12_1).f2) x14_2).f1) from ge254_1)
                                  clear hv254_1 ge254_1
                                  have hv254_2 := hcc254 2 _ rfl
                                  rw [add_field _ _ 2 (by omega)] at hv254_2
                                  replace hv254_2 := Option.some.inj (hv254_2.symm.trans hx254_2)
                                  rw [hv254_2] at ge254_2
                                  have HL254_2 := Aside0.mk (show Kd.R k33 33 _ _ _ _ ((rd_T33 ((rd_T33 t246 x12_1).f2) x14_2).f2) from ge254_2)
                                  clear hv254_2 ge254_2
                                  clear hcc254 hce254
                                  have HR254_1 := Aside0.mk hi254_1
                                  have HC254_1 := Aside0.mk hl254_1
                                  clear hi254_1 hl254_1
                                  have HR254_2 := Aside0.mk hi254_2
                                  have HC254_2 := Aside0.mk hl254_2
                                  clear hi254_2 hl254_2
                                  replace p254 := eq_true p254
                                  replace q254 := eq_true q254
                                  have p255 : 0 ≤ (x12_1 : Int) := of_decide_eq_true (by first | (with_reducible assumption) | assumption)
                                  have q255 : x12_1 < (t246.length : Int) := of_decide_eq_true (by first | (with_reducible assumption) | assumption)
                                  obtain ⟨ad255, A255_1, c255_1, A255_2, c255_2, e255, hx255_0, hx255_1, hx255_2, hl255_1, hi255_1, hl255_2, hi255_2⟩ := at_T33 (Kd.R_reads' HO_252002.out).2.2 x12_1 p255 q255
                                  obtain rfl : ad252 = ad255 := (by injection e255)
                                  obtain ⟨ce255, hce255, hMe255, hcc255⟩ := Kd.R_get HO_252002.out z33 x12_1 p255 (by first | exact q255 | exact of_decide_eq_true (by first | (with_reducible assumption) | assumption) | (have e_ := (Kd.R_reads' HO_252002.out).1; omega))
                                  obtain ⟨ve255_1, ve255_2, rfl, ge255_1, ge255_2⟩ := k33_openM hMe255
                                  have hv255_1 := hcc255 1 _ rfl
                                  rw [add_field _ _ 1 (by omega)] at hv255_1
                                  replace hv255_1 := Option.some.inj (hv255_1.symm.trans hx255_1)
                                  rw [hv255_1] at ge255_1
                                  have HL255_1 := Aside0.mk (show Kd.R (Kd.int .u8) 5 _ _ _ _ ((rd_T33 t246 x12_1).f1) from ge255_1)
                                  clear hv255_1 ge255_1
                                  have hv255_2 := hcc255 2 _ rfl
                                  rw [add_field _ _ 2 (by omega)] at hv255_2
                                  replace hv255_2 := Option.some.inj (hv255_2.symm.trans hx255_2)
                                  rw [hv255_2] at ge255_2
                                  have HL255_2 := Aside0.mk (show Kd.R k33 33 _ _ _ _ ((rd_T33 t246 x12_1).f2) from ge255_2)
                                  clear hv255_2 ge255_2
                                  clear hcc255 hce255
                                  have HR255_1 := Aside0.mk hi255_1
                                  have HC255_1 := Aside0.mk hl255_1
                                  clear hi255_1 hl255_1
                                  have HR255_2 := Aside0.mk hi255_2
                                  have HC255_2 := Aside0.mk hl255_2
                                  clear hi255_2 hl255_2
                                  replace p255 := eq_true p255
                                  replace q255 := eq_true q255
                                  have ea_ := Option.some.inj (hx252_1.symm.trans hx255_1)
                                  injection ea_ with ea_ en_ ec_
                                  subst ea_
                                  subst ec_
                                  clear en_
                                  have ea_ := Option.some.inj (hx252_2.symm.trans hx255_2)
                                  injection ea_ with ea_ en_ ec_
                                  subst ea_
                                  subst ec_
                                  clear en_
                                  have p256 : 0 ≤ (x14_2 : Int) := of_decide_eq_true (by first | (with_reducible assumption) | assumption)
                                  have q256 : x14_2 < (((rd_T33 t246 x12_1).f2).length : Int) := of_decide_eq_true (by first | (with_reducible assumption) | assumption)
                                  obtain ⟨ad256, A256_1, c256_1, A256_2, c256_2, e256, hx256_0, hx256_1, hx256_2, hl256_1, hi256_1, hl256_2, hi256_2⟩ := at_T33 (by repeat (first | (with_reducible exact HR255_2.out) | (with_reducible refine Kd.C_alloc ?_ _) | (with_reducible refine Kd.C_drewN ?_ _) | (with_reducible refine Kd.C_drew ?_) | exact HR255_2.out)) x14_2 p256 q256
                                  cases e256
                                  obtain ⟨ce256, hce256, hMe256, hcc256⟩ := Kd.R_get HL255_2.out z33 x14_2 p256 (by first | exact q256 | exact of_decide_eq_true (by first | (with_reducible assumption) | assumption) | (have e_ := (Kd.R_reads' HL255_2.out).1; omega))
                                  obtain ⟨ve256_1, ve256_2, rfl, ge256_1, ge256_2⟩ := k33_openM hMe256
                                  have hv256_1 := hcc256 1 _ rfl
                                  rw [add_field _ _ 1 (by omega)] at hv256_1
                                  replace hv256_1 := Option.some.inj (hv256_1.symm.trans hx256_1)
                                  rw [hv256_1] at ge256_1
                                  have HL256_1 := Aside0.mk (show Kd.R (Kd.int .u8) 5 _ _ _ _ ((rd_T33 ((rd_T33 t246 x12_1).f2) x14_2).f1) from ge256_1)
                                  clear hv256_1 ge256_1
                                  have hv256_2 := hcc256 2 _ rfl
                                  rw [add_field _ _ 2 (by omega)] at hv256_2
                                  replace hv256_2 := Option.some.inj (hv256_2.symm.trans hx256_2)
                                  rw [hv256_2] at ge256_2
                                  have HL256_2 := Aside0.mk (show Kd.R k33 33 _ _ _ _ ((rd_T33 ((rd_T33 t246 x12_1).f2) x14_2).f2) from ge256_2)
                                  clear hv256_2 ge256_2
                                  clear hcc256 hce256
                                  have HR256_1 := Aside0.mk hi256_1
                                  have HC256_1 := Aside0.mk hl256_1
                                  clear hi256_1 hl256_1
                                  have HR256_2 := Aside0.mk hi256_2
                                  have HC256_2 := Aside0.mk hl256_2
                                  clear hi256_2 hl256_2
                                  replace p256 := eq_true p256
                                  replace q256 := eq_true q256
                                  go_wp2_with (first | ((with_reducible refine gate_builtin (b := .append) (xs := #[.tmp 66, .tmp 78]) rfl ?_); at_builtin; refine Kd.R_append (Kd.int .i64) (w0 := w) w.heap.size rfl (.tmp 66) (.tmp 78) 46 3 (.int .i64 0) 8 rfl Try.underlying46 info3 rfl (by decide) (by omega) u13 x13_2 (wrap64 ((rd_T33 ((rd_T33 t246 x12_1).f2) x14_2).f0)) [.int .i64 (wrap64 ((rd_T33 ((rd_T33 t246 x12_1).f2) x14_2).f0))] (fun _ => True) (fun _ => False) rfl rfl ?aP (fun _ hk => hk.elim) ?aF ?aO ?aB ?aS ?aL ?_; (case aP => exact rfl); (case aB => exact (by repeat (first | (with_reducible first | exact HB.out | apply below_alloc | apply pw_below_drewN | apply below_drew1 | refine below_set ?_ GE251.out) | exact HB.out))); (case aF => exact (fun _ _ => trivial)); (case aO => exact (by (with_reducible repeat (first | apply Kd.R_alloc | apply Kd.R_drewN | apply Kd.R_drew)); exact HO_13.out)); (case aS => exact (below_size (by repeat (first | (with_reducible first | exact HB.out | apply below_alloc | apply pw_below_drewN | apply below_drew1 | refine below_set ?_ GE251.out) | exact HB.out)))); (case aL => have := LMc28.out; omega); intro v258 w30 ho hb hg hat; rw [← Ny257.out] at ho; have n0_ := Aside0.mk (Kd.S_after (ok := (fun _ => True)) (by (with_reducible repeat (first | apply Kd.S_alloc | apply Kd.S_drewN | apply Kd.S_drew)); exact Kd.S_mono HO_11.out (fun _ hk => ⟨trivial, hk⟩)) hg hat); have n1_ := Aside0.mk (Kd.R_over' (by (with_reducible repeat (first | apply Kd.R_alloc | apply Kd.R_drewN | apply Kd.R_drew)); exact HO_252001.out) (Kd.R_typed (by (with_reducible repeat (first | apply Kd.R_alloc | apply Kd.R_drewN | apply Kd.R_drew)); exact HO_13.out)) (by decide) hg); have n2_ := Aside0.mk (Kd.R_over' (by (with_reducible repeat (first | apply Kd.R_alloc | apply Kd.R_drewN | apply Kd.R_drew)); exact HO_252002.out) (Kd.R_typed (by (with_reducible repeat (first | apply Kd.R_alloc | apply Kd.R_drewN | apply Kd.R_drew)); exact HO_13.out)) (by decide) hg); have n3_ := Aside0.mk (blk_grown (g := gb251) (o := .cells #[.int .u64 t242, .slice Ao18 t243.length co18, .slice (some ad252) t246.length co19] 33 (0, 0)) (by (with_reducible repeat (first | refine blk_drewN ?_ _ | refine blk_drew ?_ | refine blk_alloc ?_ _)); exact BK251.out) hg (Kd.R_ne HO_13.out BK251.out (by decide))); have n4_ := Aside0.mk (Kd.R_over' (by (with_reducible repeat (first | apply Kd.R_alloc | apply Kd.R_drewN | apply Kd.R_drew)); exact HL252_1.out) (Kd.R_typed (by (with_reducible repeat (first | apply Kd.R_alloc | apply Kd.R_drewN | apply Kd.R_drew)); exact HO_13.out)) (by decide) hg); have n5_ := Aside0.mk (Kd.R_over' (by (with_reducible repeat (first | apply Kd.R_alloc | apply Kd.R_drewN | apply Kd.R_drew)); exact HL252_2.out) (Kd.R_typed (by (with_reducible repeat (first | apply Kd.R_alloc | apply Kd.R_drewN | apply Kd.R_drew)); exact HO_13.out)) (by decide) hg); have n6_ := Aside0.mk (Kd.R_over' (by (with_reducible repeat (first | apply Kd.R_alloc | apply Kd.R_drewN | apply Kd.R_drew)); exact HL253_1.out) (Kd.R_typed (by (with_reducible repeat (first | apply Kd.R_alloc | apply Kd.R_drewN | apply Kd.R_drew)); exact HO_13.out)) (by decide) hg); have n7_ := Aside0.mk (Kd.R_over' (by (with_reducible repeat (first | apply Kd.R_alloc | apply Kd.R_drewN | apply Kd.R_drew)); exact HL253_2.out) (Kd.R_typed (by (with_reducible repeat (first | apply Kd.R_alloc | apply Kd.R_drewN | apply Kd.R_drew)); exact HO_13.out)) (by decide) hg); have n8_ := Aside0.mk (Kd.R_over' (by (with_reducible repeat (first | apply Kd.R_alloc | apply Kd.R_drewN | apply Kd.R_drew)); exact HL254_1.out) (Kd.R_typed (by (with_reducible repeat (first | apply Kd.R_alloc | apply Kd.R_drewN | apply Kd.R_drew)); exact HO_13.out)) (by decide) hg); have n9_ := Aside0.mk (Kd.R_over' (by (with_reducible repeat (first | apply Kd.R_alloc | apply Kd.R_drewN | apply Kd.R_drew)); exact HL254_2.out) (Kd.R_typed (by (with_reducible repeat (first | apply Kd.R_alloc | apply Kd.R_drewN | apply Kd.R_drew)); exact HO_13.out)) (by decide) hg); have n10_ := Aside0.mk (Kd.R_over' (by (with_reducible repeat (first | apply Kd.R_alloc | apply Kd.R_drewN | apply Kd.R_drew)); exact HL255_1.out) (Kd.R_typed (by (with_reducible repeat (first | apply Kd.R_alloc | apply Kd.R_drewN | apply Kd.R_drew)); exact HO_13.out)) (by decide) hg); have n11_ := Aside0.mk (Kd.R_over' (by (with_reducible repeat (first | apply Kd.R_alloc | apply Kd.R_drewN | apply Kd.R_drew)); exact HL255_2.out) (Kd.R_typed (by (with_reducible repeat (first | apply Kd.R_alloc | apply Kd.R_drewN | apply Kd.R_drew)); exact HO_13.out)) (by decide) hg); have n12_ := Aside0.mk (Kd.R_over' (by (with_reducible repeat (first | apply Kd.R_alloc | apply Kd.R_drewN | apply Kd.R_drew)); exact HL256_1.out) (Kd.R_typed (by (with_reducible repeat (first | apply Kd.R_alloc | apply Kd.R_drewN | apply Kd.R_drew)); exact HO_13.out)) (by decide) hg); have n13_ := Aside0.mk (Kd.R_over' (by (with_reducible repeat (first | apply Kd.R_alloc | apply Kd.R_drewN | apply Kd.R_drew)); exact HL256_2.out) (Kd.R_typed (by (with_reducible repeat (first | apply Kd.R_alloc | apply Kd.R_drewN | apply Kd.R_drew)); exact HO_13.out)) (by decide) hg); have n14_ := Aside0.mk (hb); have n15_ := Aside0.mk (ho); clear HO_11; clear HO_252001; clear HO_252002; clear BK251; clear HL252_1; clear HL252_2; clear HL253_1; clear HL253_2; clear HL254_1; clear HL254_2; clear HL255_1; clear HL255_2; clear HL256_1; clear HL256_2; clear HB; clear HO_13; have HO_11 := n0_; have HO_252001 := n1_; have HO_252002 := n2_; have BK251 := n3_; have HL252_1 := n4_; have HL252_2 := n5_; have HL253_1 := n6_; have HL253_2 := n7_; have HL254_1 := n8_; have HL254_2 := n9_; have HL255_1 := n10_; have HL255_2 := n11_; have HL256_1 := n12_; have HL256_2 := n13_; have HB := n14_; have HO259 := n15_; clear n0_ n1_ n2_ n3_ n4_ n5_ n6_ n7_ n8_ n9_ n10_ n11_ n12_ n13_ n14_ n15_; clear ho hb hg hat))
                                  go_roundg k2
                                  case measure => have := HK1.out; have := HK2.out; omega
                                  case rel => exact ⟨(y257), (wrap64 (x14_2 + 1)), (by first | rfl | (simp; done) | (simp [*]; done)), H', ⟨by have := HK1.out; have := HK2.out; omega⟩, ⟨by (with_reducible repeat (first | apply Kd.S_alloc | apply Kd.S_drewN | apply Kd.S_drew)); exact Kd.S_mono HO_11.out (fun _ hk => hk.2)⟩, ⟨by (with_reducible repeat (first | apply Kd.R_alloc | apply Kd.R_drewN | apply Kd.R_drew)); exact HO259.out⟩, ⟨by (with_reducible repeat (first | apply Kd.R_alloc | apply Kd.R_drewN | apply Kd.R_drew)); exact HO_252001.out⟩, ⟨by (with_reducible repeat (first | apply Kd.R_alloc | apply Kd.R_drewN | apply Kd.R_drew)); exact HO_252002.out⟩, ⟨by (with_reducible repeat (first | refine blk_drewN ?_ _ | refine blk_drew ?_ | refine blk_alloc ?_ _)); exact BK251.out⟩, ⟨by repeat (first | (with_reducible first | exact HB.out | apply below_alloc | apply pw_below_drewN | apply below_drew1 | refine below_set ?_ GE251.out) | exact HB.out)⟩⟩
                                · rw [if_neg c28] at H
                                  exact absurd H (by simp)
                            · rw [if_neg c25] at H
                              exact absurd H (by simp)
                          · rw [if_neg c24] at H
                            have c24b0 : decide (x14_2 < (((rd_T33 t246 x12_1).f2).length : Int)) = false := decide_eq_false c24
                            clear c24
                            by_cases c31 : x11_1.length < 5864062014805
                            · rw [if_pos c31] at H
                              have LMc31 := Aside0.mk c31
                              clear c31
                              obtain ⟨y260, hy260⟩ : ∃ y_ : List (List Int), y_ = (x11_1 ++ [x13_2]) := ⟨_, rfl⟩
                              replace H : (echelonref19_take.l0 k2 y260 (wrap64 (x12_1 + 1)) t242 t243 t246) = some (r1, r2) := by first | (rw [hy260]; with_reducible exact H) | (have H2_ := (Option.bind_some _ _).symm.trans H; rw [hy260]; with_reducible exact H2_) | (have H2_ := (Option.bind_some _ _).symm.trans H; with_reducible exact H2_) | with_reducible exact H | (rw [hy260]; exact H) | exact H
                              have Ny260 := Aside0.mk hy260
                              clear hy260
                              have H' := Aside0.mk H
                              clear H
                              have hcz32_0 : wr.cell? ⟨gb251, 0, none⟩ = some (.int .u64 t242) := (blk_cell BK251.out 0).trans rfl
                              have hcz32_1 : wr.cell? ⟨gb251, 1, none⟩ = some (.slice Ao18 t243.length co18) := (blk_cell BK251.out 1).trans rfl
                              have hcz32_2 : wr.cell? ⟨gb251, 2, none⟩ = some (.slice Ao19 t246.length co19) := (blk_cell BK251.out 2).trans rfl
                              have hfz32_0 := blk_frozen BK251.out 0
                              have hfz32_1 := blk_frozen BK251.out 1
                              have hfz32_2 := blk_frozen BK251.out 2
                              have p252 : 0 ≤ (x12_1 : Int) := of_decide_eq_true (by first | (with_reducible assumption) | assumption)
                              have q252 : x12_1 < (t246.length : Int) := of_decide_eq_true (by first | (with_reducible assumption) | assumption)
                              obtain ⟨ad252, A252_1, c252_1, A252_2, c252_2, e252, hx252_0, hx252_1, hx252_2, hl252_1, hi252_1, hl252_2, hi252_2⟩ := at_T33 (Kd.R_reads' HO_252002.out).2.2 x12_1 p252 q252
                              cases e252
                              obtain ⟨ce252, hce252, hMe252, hcc252⟩ := Kd.R_get HO_252002.out z33 x12_1 p252 (by first | exact q252 | exact of_decide_eq_true (by first | (with_reducible assumption) | assumption) | (have e_ := (Kd.R_reads' HO_252002.out).1; omega))
                              obtain ⟨ve252_1, ve252_2, rfl, ge252_1, ge252_2⟩ := k33_openM hMe252
                              have hv252_1 := hcc252 1 _ rfl
                              rw [add_field _ _ 1 (by omega)] at hv252_1
                              replace hv252_1 := Option.some.inj (hv252_1.symm.trans hx252_1)
                              rw [hv252_1] at ge252_1
                              have HL252_1 := Aside0.mk (show Kd.R (Kd.int .u8) 5 _ _ _ _ ((rd_T33 t246 x12_1).f1) from ge252_1)
                              clear hv252_1 ge252_1
                              have hv252_2 := hcc252 2 _ rfl
                              rw [add_field _ _ 2 (by omega)] at hv252_2
                              replace hv252_2 := Option.some.inj (hv252_2.symm.trans hx252_2)
                              rw [hv252_2] at ge252_2
                              have HL252_2 := Aside0.mk (show Kd.R k33 33 _ _ _ _ ((rd_T33 t246 x12_1).f2) from ge252_2)
                              clear hv252_2 ge252_2
                              clear hcc252 hce252
                              have HR252_1 := Aside0.mk hi252_1
                              have HC252_1 := Aside0.mk hl252_1
                              clear hi252_1 hl252_1
                              have HR252_2 := Aside0.mk hi252_2
                              have HC252_2 := Aside0.mk hl252_2
                              clear hi252_2 hl252_2
                              replace p252 := eq_true p252
                              replace q252 := eq_true q252
                              obtain ⟨Ao34, co34, eo34⟩ := Kd.R_slice HO_13.out
                              subst eo34
                              go_wp2_with (first | ((with_reducible refine gate_builtin (b := .append) (xs := #[.tmp 80, .tmp 82]) rfl ?_); at_builtin; refine Kd.S_append (Kd.slice 3 (Kd.int .i64)) (w0 := w) w.heap.size rfl (.tmp 80) (.tmp 82) 141 46 (.slice none 0 0) 24 rfl Try.underlying141 info46 rfl (by decide) (by omega) u11 x11_1 x13_2 [.slice Ao34 x13_2.length co34] (fun _ => True) (fun k_ => some k_ = (.slice Ao34 x13_2.length co34 : Value).ownBlock) rfl rfl ?aP (fun k_ hk_ => ((Kd.R_mono (ok' := fun k_ => ((fun _ => True)) k_ ∧ some k_ ≠ (u11 : Value).ownBlock) (Kd.R_apart' (HO_13.out) (Kd.S_typed HO_11.out) (by decide)) (fun k_ hk => ⟨trivial, hk.2⟩))).1 k_ hk_.symm) ?aF ?aO ?aB ?aS ?aL ?_; (case aP => exact Kd.M_row (Kd.R_mono (Kd.R_tight rfl (Kd.R_mono (ok' := fun k_ => ((fun _ => True)) k_ ∧ some k_ ≠ (u11 : Value).ownBlock) (Kd.R_apart' (HO_13.out) (Kd.S_typed HO_11.out) (by decide)) (fun k_ hk => ⟨trivial, hk.2⟩))) (fun _ h_ => h_))); (case aB => exact (by repeat (first | (with_reducible first | exact HB.out | apply below_alloc | apply pw_below_drewN | apply below_drew1 | refine below_set ?_ GE251.out) | exact HB.out))); (case aF => exact (fun _ _ => trivial)); (case aO => exact (by (with_reducible repeat (first | apply Kd.S_alloc | apply Kd.S_drewN | apply Kd.S_drew)); exact Kd.S_mono HO_11.out (fun k_ hk => ⟨trivial, fun e_ => hk e_⟩))); (case aS => exact (below_size (by repeat (first | (with_reducible first | exact HB.out | apply below_alloc | apply pw_below_drewN | apply below_drew1 | refine below_set ?_ GE251.out) | exact HB.out)))); (case aL => have := LMc31.out; omega); intro v261 w33 ho hb hg hat; rw [← Ny260.out] at ho; have n0_ := Aside0.mk (Kd.R_over' (by (with_reducible repeat (first | apply Kd.R_alloc | apply Kd.R_drewN | apply Kd.R_drew)); exact HO_252001.out) (Kd.S_typed (by (with_reducible repeat (first | apply Kd.S_alloc | apply Kd.S_drewN | apply Kd.S_drew)); exact HO_11.out)) (by decide) hg); have n1_ := Aside0.mk (Kd.R_over' (by (with_reducible repeat (first | apply Kd.R_alloc | apply Kd.R_drewN | apply Kd.R_drew)); exact HO_252002.out) (Kd.S_typed (by (with_reducible repeat (first | apply Kd.S_alloc | apply Kd.S_drewN | apply Kd.S_drew)); exact HO_11.out)) (by decide) hg); have n2_ := Aside0.mk (blk_grown (g := gb251) (o := .cells #[.int .u64 t242, .slice Ao18 t243.length co18, .slice (some ad252) t246.length co19] 33 (0, 0)) (by (with_reducible repeat (first | refine blk_drewN ?_ _ | refine blk_drew ?_ | refine blk_alloc ?_ _)); exact BK251.out) hg (Kd.S_ne HO_11.out BK251.out (by decide))); have n3_ := Aside0.mk (Kd.R_over' (by (with_reducible repeat (first | apply Kd.R_alloc | apply Kd.R_drewN | apply Kd.R_drew)); exact HL252_1.out) (Kd.S_typed (by (with_reducible repeat (first | apply Kd.S_alloc | apply Kd.S_drewN | apply Kd.S_drew)); exact HO_11.out)) (by decide) hg); have n4_ := Aside0.mk (Kd.R_over' (by (with_reducible repeat (first | apply Kd.R_alloc | apply Kd.R_drewN | apply Kd.R_drew)); exact HL252_2.out) (Kd.S_typed (by (with_reducible repeat (first | apply Kd.S_alloc | apply Kd.S_drewN | apply Kd.S_drew)); exact HO_11.out)) (by decide) hg); have n5_ := Aside0.mk (hb); have n6_ := Aside0.mk (ho); clear HO_252001; clear HO_252002; clear BK251; clear HL252_1; clear HL252_2; clear HB; clear HO_11; clear HO_13; have HO_252001 := n0_; have HO_252002 := n1_; have BK251 := n2_; have HL252_1 := n3_; have HL252_2 := n4_; have HB := n5_; have HO262 := n6_; clear n0_ n1_ n2_ n3_ n4_ n5_ n6_; clear ho hb hg hat))
                              go_roundg k2
                              case measure => have := HK1.out; have := HK2.out; omega
                              case rel => exact ⟨(y260), (wrap64 (x12_1 + 1)), (by first | rfl | (simp; done) | (simp [*]; done)), H', ⟨by have := HK1.out; have := HK2.out; omega⟩, ⟨by (with_reducible repeat (first | apply Kd.S_alloc | apply Kd.S_drewN | apply Kd.S_drew)); exact HO262.out⟩, ⟨by (with_reducible repeat (first | apply Kd.R_alloc | apply Kd.R_drewN | apply Kd.R_drew)); exact HO_252001.out⟩, ⟨by (with_reducible repeat (first | apply Kd.R_alloc | apply Kd.R_drewN | apply Kd.R_drew)); exact HO_252002.out⟩, ⟨by (with_reducible repeat (first | refine blk_drewN ?_ _ | refine blk_drew ?_ | refine blk_alloc ?_ _)); exact BK251.out⟩, ⟨by repeat (first | (with_reducible first | exact HB.out | apply below_alloc | apply pw_below_drewN | apply below_drew1 | refine below_set ?_ GE251.out) | exact HB.out)⟩⟩
                            · rw [if_neg c31] at H
                              exact absurd H (by simp)
                        · rw [if_neg c23] at H
                          exact absurd H (by simp)
                      · rw [if_neg c22] at H
                        exact absurd H (by simp)
                · rw [if_neg c20] at H
                  have c20b0 : decide (x12_1 < (t246.length : Int)) = false := decide_eq_false c20
                  clear c20
                  simp only [Option.some.injEq, Prod.mk.injEq] at H
                  obtain ⟨rfl, rfl⟩ := H
                  have hcz35_0 : wr.cell? ⟨gb251, 0, none⟩ = some (.int .u64 t242) := (blk_cell BK251.out 0).trans rfl
                  have hcz35_1 : wr.cell? ⟨gb251, 1, none⟩ = some (.slice Ao18 t243.length co18) := (blk_cell BK251.out 1).trans rfl
                  have hcz35_2 : wr.cell? ⟨gb251, 2, none⟩ = some (.slice Ao19 t246.length co19) := (blk_cell BK251.out 2).trans rfl
                  have hfz35_0 := blk_frozen BK251.out 0
                  have hfz35_1 := blk_frozen BK251.out 1
                  have hfz35_2 := blk_frozen BK251.out 2
                  go_wp2
                  go_ret2
                  exact ⟨_, by first | rfl | (simp [errW_none, errW_some] <;> rfl) | (simp [*, errW_none, errW_some] <;> rfl), by (with_reducible repeat (first | apply Kd.S_alloc | apply Kd.S_drewN | apply Kd.S_drew)); exact HO_11.out, by repeat (first | (with_reducible first | exact HB.out | apply below_alloc | apply pw_below_drewN | apply below_drew1 | refine below_set ?_ GE251.out) | exact HB.out)⟩
        · rw [if_neg c8] at H
          have c8b0 : (t250 == 0) = false := beq_eq_false_iff_ne.mpr c8
          have c8b1 : (t250 != 0) = true := bne_iff_ne.mpr c8
          simp only [Option.some.injEq, Prod.mk.injEq] at H
          obtain ⟨rfl, rfl⟩ := H
          have p241 : 0 ≤ (0 : Int) := (by omega)
          have q241 : 0 < (l2.length : Int) := of_decide_eq_true (by first | (with_reducible assumption) | assumption)
          obtain ⟨ad241, e241, hx241_0⟩ := Kd.at_int HR2.out 0 p241 q241
          cases e241
          have qi241 : (0 < l2.length) = True := eq_true (by omega)
          (try rw [show ((0 : Int)).toNat = 0 from rfl] at hx241_0)
          (try rw [Addr.add_zero'] at hx241_0)
          replace p241 := eq_true p241
          replace q241 := eq_true q241
          go_enter Try.func86, Try.ntmps86
          go_wp2_with (first | ((with_reducible refine gate_callee (f := 102) rfl ?_); refine goesL_ (some 26) rfl rfl Try.func102 (by kernel_rfl) rfl #[.string a1, .slice (some ad241) l2.length c2, .int .i64 1] rfl (by (try simp only [List.map_toArray, List.map_cons, List.map_nil]); first | done | rfl | (simp only [List.length_drop, List.length_take]; rfl)) ?_; (with_reducible refine (echelonref01_Take.calls k a1 _ _ l2 1 t242 t243 t246 t249 t250 _ ?side1 ?side2 A7.out).mono ?_); (case side1 => repeat (first | exact HR2.out | (with_reducible refine Kd.C_alloc ?_ _) | (with_reducible refine Kd.C_drewN ?_ _) | (with_reducible refine Kd.C_drew ?_))); (case side2 => exact HC2.out); rintro e w36 ⟨v244, v247, rfl, ho0, ho1, hb⟩; refine ⟨_, rfl, ?_⟩; have n0_ := Aside0.mk (Kd.R_lower ho0 (below_size (by repeat (first | (with_reducible first | exact HB.out | apply below_alloc | apply pw_below_drewN | apply below_drew1) | exact HB.out)))); have n1_ := Aside0.mk (Kd.R_lower ho1 (below_size (by repeat (first | (with_reducible first | exact HB.out | apply below_alloc | apply pw_below_drewN | apply below_drew1) | exact HB.out)))); have n2_ := Aside0.mk (below_step (by repeat (first | (with_reducible first | exact HB.out | apply below_alloc | apply pw_below_drewN | apply below_drew1) | exact HB.out)) hb); clear HB; have HO245 := n0_; have HO248 := n1_; have HB := n2_; clear n0_ n1_ n2_; (try clear hb); (try clear hb2); (try clear hk); (try clear hi); (try clear ho0); (try clear ho1)) | ((with_reducible refine gate_dst (N := 8) rfl ?_); refine box_event ?hg (N := 8) ?hd (cs := #[.int .u64 0, .slice none 0 0, .slice none 0 0]) (t := 33) ?hr ?_; (case hd => rfl); (case hg => rfl); (case hr => first | (go_simp; done) | (go_simp; rfl)); intro gb251 hg w37 hbox hb; have n0_ := Aside0.mk (Kd.R_below (by (with_reducible repeat (first | apply Kd.R_alloc | apply Kd.R_drewN | apply Kd.R_drew)); exact HO245.out) hb); have n1_ := Aside0.mk (Kd.R_below (Kd.R_elderB (by (with_reducible repeat (first | apply Kd.R_alloc | apply Kd.R_drewN | apply Kd.R_drew)); exact HO248.out) gb251 (Nat.le_of_eq hg.symm)) hb); have n2_ := Aside0.mk (below_step (by repeat (first | (with_reducible first | exact HB.out | apply below_alloc | apply pw_below_drewN | apply below_drew1) | exact HB.out)) hb); have n3_ := Aside0.mk (hbox); have n4_ := Aside0.mk ((by rw [hg]; exact (below_size (by repeat (first | (with_reducible first | exact HB.out | apply below_alloc | apply pw_below_drewN | apply below_drew1) | exact HB.out))) : w.heap.size ≤ gb251)); have n5_ := Aside0.mk ((by rw [hg]; exact (below_size (by repeat (first | (with_reducible first | exact HB.out | apply below_alloc | apply pw_below_drewN | apply below_drew1) | exact HB.out))) : w.heap.size ≤ gb251)); clear HO245; clear HO248; clear HB; have HO245 := n0_; have HO248 := n1_; have HB := n2_; have BK251 := n3_; have GW251 := n4_; have GE251 := n5_; clear n0_ n1_ n2_ n3_ n4_ n5_; clear hb hbox hg; have hcz38_0 : w37.cell? ⟨gb251, 0, none⟩ = some (.int .u64 0) := (blk_cell BK251.out 0).trans rfl; have hcz38_1 : w37.cell? ⟨gb251, 1, none⟩ = some (.slice none 0 0) := (blk_cell BK251.out 1).trans rfl; have hcz38_2 : w37.cell? ⟨gb251, 2, none⟩ = some (.slice none 0 0) := (blk_cell BK251.out 2).trans rfl; have hfz38_0 := blk_frozen BK251.out 0; have hfz38_1 := blk_frozen BK251.out 1; have hfz38_2 := blk_frozen BK251.out 2; obtain ⟨Ao39, co39, eo39⟩ := Kd.R_slice HO245.out; subst eo39; obtain ⟨Ao40, co40, eo40⟩ := Kd.R_slice HO248.out; subst eo40))
          go_ret2
          exact ⟨_, by first | rfl | (simp [errW_none, errW_some] <;> rfl) | (simp [*, errW_none, errW_some] <;> rfl), by first | exact Kd.S_nil _ _ _ _ _ | exact Kd.N_nil _ _ _ _ _ | exact Kd.V_nil _ _ _ _ _ | exact Kd.Q_nil _ _ _ _ _ | exact Kd.R_nil _ _ _ _ _, by repeat (first | (with_reducible first | exact HB.out | apply below_alloc | apply pw_below_drewN | apply below_drew1 | refine below_set ?_ GE251.out) | exact HB.out)⟩
      · rw [if_neg c6] at H
        have c6b0 : ((rd l2 0) == a0) = false := beq_eq_false_iff_ne.mpr c6
        have c6b1 : ((rd l2 0) != a0) = true := bne_iff_ne.mpr c6
        simp only [Option.some.injEq, Prod.mk.injEq] at H
        obtain ⟨rfl, rfl⟩ := H
        have p241 : 0 ≤ (0 : Int) := (by omega)
        have q241 : 0 < (l2.length : Int) := of_decide_eq_true (by first | (with_reducible assumption) | assumption)
        obtain ⟨ad241, e241, hx241_0⟩ := Kd.at_int HR2.out 0 p241 q241
        cases e241
        have qi241 : (0 < l2.length) = True := eq_true (by omega)
        (try rw [show ((0 : Int)).toNat = 0 from rfl] at hx241_0)
        (try rw [Addr.add_zero'] at hx241_0)
        replace p241 := eq_true p241
        replace q241 := eq_true q241
        go_enter Try.func86, Try.ntmps86
        go_wp2
        go_ret2
        exact ⟨_, by first | rfl | (simp [errW_none, errW_some] <;> rfl) | (simp [*, errW_none, errW_some] <;> rfl), by first | exact Kd.S_nil _ _ _ _ _ | exact Kd.N_nil _ _ _ _ _ | exact Kd.V_nil _ _ _ _ _ | exact Kd.Q_nil _ _ _ _ _ | exact Kd.R_nil _ _ _ _ _, by repeat (first | (with_reducible first | exact HB.out | apply below_alloc | apply pw_below_drewN | apply below_drew1) | exact HB.out)⟩
    · rw [if_neg c5] at H
      exact absurd H (by simp)
end Go.Proofs.Ytcdlccnpbhjgkaa.POrderBytes
