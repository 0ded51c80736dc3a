/- Kept of the text Plx2: what is reached (wip/tools/prune.py). -/
import Derived.Test.YtkeadpichlgagaaVPlx0
import Derived.Test.YtkeadpichlgagaaVPlx1
namespace Go.Proofs.Ytkeadpichlgagaa.Pl
open Go.RowKit Go.Proofs.YtkeadpichlgagaaW.PrintWords Go.Proofs.YtkeadpichlgagaaW.PrintLast Go.Proofs.YtkeadpichlgagaaW.PrintMore
attribute [local go_sem] max2_int min2_int max_two min_two max_three min_three max_four min_four   -- for this text's walks alone
open Go.Proofs.Ytkeadpichlgagaa.PlS
set_option linter.unusedVariables false
set_option linter.unusedSimpArgs false
def echelonref15_Bytes.l0 : Nat → List Int → Int → Int → Int → List (S51) → Option (List Int)
  | 0, _, _, _, _, _ => none
  | k + 1, x3, x4, x182000, x182001, x182002 => if x4 < (x182002.length : Int) then (if 0 ≤ x4 then ((echelonref15_list.f k ((rd_T51 x182002 x4).f0)).bind fun t198 => (if x3.length + t198.length < 140737488355328 then ((some (x3 ++ t198 : List Int)).bind fun y201 => ((echelonref15_list.f k ((rd_T51 x182002 x4).f1)).bind fun t205 => (if y201.length + t205.length < 140737488355328 then ((some (y201 ++ t205 : List Int)).bind fun y208 => ((echelonref01_Number.f k (IntKind.u64.wrap ((rd_T51 x182002 x4).f2))).bind fun t212 => (if y208.length + t212.length < 140737488355328 then (echelonref15_Bytes.l0 k (y208 ++ t212) (wrap64 (x4 + 1)) x182000 x182001 x182002) else (none)))) else (none)))) else (none))) else (none)) else (some x3)
def echelonref15_Bytes.f (k : Nat) (a0_0 : Int) (a0_1 : Int) (l0_2 : List (S51)) : Option (List Int) := (echelonref01_Number.f k (IntKind.u64.wrap (a0_0))).bind fun t182 => ((echelonref01_Number.f k (IntKind.u64.wrap (a0_1))).bind fun t185 => (if t182.length + t185.length < 140737488355328 then ((some (t182 ++ t185 : List Int)).bind fun y188 => ((echelonref01_Number.f k (IntKind.u64.wrap ((l0_2.length : Int)))).bind fun t191 => (if y188.length + t191.length < 140737488355328 then (echelonref15_Bytes.l0 k (y188 ++ t191) 0 a0_0 a0_1 l0_2) else (none)))) else (none)))
theorem echelonref15_Bytes.mono_l : ∀ k, (∀ y0 y1 y2 y3 y4, LeO (echelonref15_Bytes.l0 k y0 y1 y2 y3 y4) (echelonref15_Bytes.l0 (k + 1) y0 y1 y2 y3 y4))
  | 0 => fun _ _ _ _ _ r h => by simp [echelonref15_Bytes.l0] at h
  | k + 1 => by
    have ih0 := echelonref15_Bytes.mono_l k
    · intro y0 y1 y2 y3 y4
      unfold echelonref15_Bytes.l0
      repeat' first
      | (with_reducible exact ih0 _ _ _ _ _)
      | (with_reducible exact echelonref01_Number.mono _ _)
      | (with_reducible exact echelonref15_list.mono _ _)
      | (with_reducible exact LeO.refl _)
      | (with_reducible exact LeO.none _)
      | (with_reducible refine LeO.ite ?_ ?_)
      | (with_reducible refine LeO.bind ?_ (fun _ => ?_))
      | exact ih0 _ _ _ _ _
      | exact echelonref01_Number.mono _ _
      | exact echelonref15_list.mono _ _
      | exact LeO.none _
      | refine LeO.ite ?_ ?_
      | refine LeO.bind ?_ (fun _ => ?_)
theorem echelonref15_Bytes.mono : ∀ a0 a1 a2 k, LeO (echelonref15_Bytes.f k a0 a1 a2) (echelonref15_Bytes.f (k + 1) a0 a1 a2) := by
  intro a0 a1 a2 k
  have ih0 := echelonref15_Bytes.mono_l k
  unfold echelonref15_Bytes.f
  repeat' first
      | (with_reducible exact ih0 _ _ _ _ _)
      | (with_reducible exact echelonref01_Number.mono _ _)
      | (with_reducible exact echelonref15_list.mono _ _)
      | (with_reducible exact LeO.refl _)
      | (with_reducible exact LeO.none _)
      | (with_reducible refine LeO.ite ?_ ?_)
      | (with_reducible refine LeO.bind ?_ (fun _ => ?_))
      | exact ih0 _ _ _ _ _
      | exact echelonref01_Number.mono _ _
      | exact echelonref15_list.mono _ _
      | exact LeO.none _
      | refine LeO.ite ?_ ?_
      | refine LeO.bind ?_ (fun _ => ?_)
def echelonref15_Bytes.T1 : Bool × List (List Nat × List Nat) := (true, [([], []), ([0], [0]), ([1], [1]), ([2], [2]), ([], []), ([4], [4]), ([5], [5]), ([6, 3], [6]), ([3, 7, 7], [3, 7]), ([8, 8, 0, 1, 2, 3, 4, 5, 6, 7, 8], [8])])
def echelonref15_Bytes.B1 : List Nat := [0, 1, 3, 7, 0, 16, 48, 127, 255, 511]
theorem echelonref15_Bytes.tab1 : rtab .any (opsOf Try.f29 1) = echelonref15_Bytes.T1 := by kernel_rfl
theorem echelonref15_Bytes.bits1 : waitsOk echelonref15_Bytes.T1.2 echelonref15_Bytes.B1 = true := by kernel_rfl
set_option maxHeartbeats 8000000 in
set_option maxRecDepth 100000 in
theorem echelonref15_Bytes.calls (k : Nat) (a0_0 : Int) (a0_1 : Int) (A0_2 : Option Addr) (c0_2 : Nat) (l0_2 : List (S51)) (r : List Int) (w : World) (hr0_2 : Kd.C k51 w A0_2 l0_2.length l0_2) (hc0_2 : l0_2.length ≤ c0_2) (h : echelonref15_Bytes.f k a0_0 a0_1 l0_2 = some r) :
    Calls Try.prog 29 #[.agg #[.int .i64 a0_0, .int .i64 a0_1, .slice A0_2 l0_2.length c0_2]] w fun e w' => ∃ v0_ : Value, e = .returned (v0_) ∧ Kd.R (Kd.int .u8) 5 w' w.heap.size (fun _ => True) v0_ r ∧ Below w.heap.size w w' := by
  have hu43 := Try.underlying43
  have HR0_2 := Aside0.mk hr0_2
  have HC0_2 := Aside0.mk hc0_2
  clear hr0_2 hc0_2
  have HB := Aside0.mk (Below.refl w.heap.size w)
  have H : ((echelonref01_Number.f k (IntKind.u64.wrap (a0_0))).bind fun t182 => ((echelonref01_Number.f k (IntKind.u64.wrap (a0_1))).bind fun t185 => (if t182.length + t185.length < 140737488355328 then ((some (t182 ++ t185 : List Int)).bind fun y188 => ((echelonref01_Number.f k (IntKind.u64.wrap ((l0_2.length : Int)))).bind fun t191 => (if y188.length + t191.length < 140737488355328 then (echelonref15_Bytes.l0 k (y188 ++ t191) 0 a0_0 a0_1 l0_2) else (none)))) else (none)))) = some r := h
  clear h
  replace H := Option.bind_eq_some_iff.mp H
  obtain ⟨t182, A20, H⟩ := H
  replace H : ((echelonref01_Number.f k (IntKind.u64.wrap (a0_1))).bind fun t185 => (if t182.length + t185.length < 140737488355328 then ((some (t182 ++ t185 : List Int)).bind fun y188 => ((echelonref01_Number.f k (IntKind.u64.wrap ((l0_2.length : Int)))).bind fun t191 => (if y188.length + t191.length < 140737488355328 then (echelonref15_Bytes.l0 k (y188 ++ t191) 0 a0_0 a0_1 l0_2) else (none)))) else (none))) = some r := H
  have A2 := Aside0.mk A20
  clear A20
  replace H := Option.bind_eq_some_iff.mp H
  obtain ⟨t185, A30, H⟩ := H
  replace H : (if t182.length + t185.length < 140737488355328 then ((some (t182 ++ t185 : List Int)).bind fun y188 => ((echelonref01_Number.f k (IntKind.u64.wrap ((l0_2.length : Int)))).bind fun t191 => (if y188.length + t191.length < 140737488355328 then (echelonref15_Bytes.l0 k (y188 ++ t191) 0 a0_0 a0_1 l0_2) else (none)))) else (none)) = some r := H
  have A3 := Aside0.mk A30
  clear A30
  by_cases c4 : t182.length + t185.length < 140737488355328
  · rw [if_pos c4] at H
    have LMc4 := Aside0.mk c4
    clear c4
    obtain ⟨y188, hy188⟩ : ∃ y_ : List Int, y_ = (t182 ++ t185) := ⟨_, rfl⟩
    replace H : ((echelonref01_Number.f k (IntKind.u64.wrap ((l0_2.length : Int)))).bind fun t191 => (if y188.length + t191.length < 140737488355328 then (echelonref15_Bytes.l0 k (y188 ++ t191) 0 a0_0 a0_1 l0_2) else (none))) = some r := by first | (rw [hy188]; with_reducible exact H) | (have H2_ := (Option.bind_some _ _).symm.trans H; rw [hy188]; with_reducible exact H2_) | (have H2_ := (Option.bind_some _ _).symm.trans H; with_reducible exact H2_) | with_reducible exact H | (rw [hy188]; exact H) | exact H
    have Ny188 := Aside0.mk hy188
    clear hy188
    replace H := Option.bind_eq_some_iff.mp H
    obtain ⟨t191, A50, H⟩ := H
    replace H : (if y188.length + t191.length < 140737488355328 then (echelonref15_Bytes.l0 k (y188 ++ t191) 0 a0_0 a0_1 l0_2) else (none)) = some r := H
    have A5 := Aside0.mk A50
    clear A50
    by_cases c6 : y188.length + t191.length < 140737488355328
    · rw [if_pos c6] at H
      have LMc6 := Aside0.mk c6
      clear c6
      obtain ⟨y194, hy194⟩ : ∃ y_ : List Int, y_ = (y188 ++ t191) := ⟨_, rfl⟩
      replace H : (echelonref15_Bytes.l0 k y194 0 a0_0 a0_1 l0_2) = some r := by first | (rw [hy194]; with_reducible exact H) | (have H2_ := (Option.bind_some _ _).symm.trans H; rw [hy194]; with_reducible exact H2_) | (have H2_ := (Option.bind_some _ _).symm.trans H; with_reducible exact H2_) | with_reducible exact H | (rw [hy194]; exact H) | exact H
      have Ny194 := Aside0.mk hy194
      clear hy194
      have H' := Aside0.mk H
      clear H
      go_enter Try.func29, Try.ntmps29
      try go_wp2_with (first | ((with_reducible refine gate_dst (N := 1) rfl ?_); refine box_event ?hg (N := 1) ?hd (cs := #[.int .i64 a0_0, .int .i64 a0_1, .slice A0_2 l0_2.length c0_2]) (t := 43) ?hr ?_; (case hd => rfl); (case hg => rfl); (case hr => first | (go_simp; done) | (go_simp; rfl)); intro gb181 hg w7 hbox hb; have n0_ := Aside0.mk (below_step (by repeat (first | (with_reducible first | exact HB.out | apply below_alloc | apply pw_below_drewN | apply below_drew1) | exact HB.out)) hb); have n1_ := Aside0.mk (hbox); have n2_ := Aside0.mk ((by rw [hg]; exact (below_size (by repeat (first | (with_reducible first | exact HB.out | apply below_alloc | apply pw_below_drewN | apply below_drew1) | exact HB.out))) : w.heap.size ≤ gb181)); have n3_ := Aside0.mk ((by rw [hg]; exact (below_size (by repeat (first | (with_reducible first | exact HB.out | apply below_alloc | apply pw_below_drewN | apply below_drew1) | exact HB.out))) : w.heap.size ≤ gb181)); clear HB; have HB := n0_; have BK181 := n1_; have GW181 := n2_; have GE181 := n3_; clear n0_ n1_ n2_ n3_; clear hb hbox hg))
      have n0_ := Aside0.mk (blk_drew BK181.out)
      have n1_ := Aside0.mk (below_drew1 HB.out)
      clear BK181
      clear HB
      have BK181 := n0_
      have HB := n1_
      clear n0_ n1_
      refine start_ (n := 10) (S := fun w' => w'.cell? ⟨gb181, 0, none⟩ = some (.int .i64 a0_0) ∧ w'.cell? ⟨gb181, 1, none⟩ = some (.int .i64 a0_1) ∧ w'.cell? ⟨gb181, 2, none⟩ = some (.slice A0_2 l0_2.length c0_2)) (ds := []) #[false, false, false, false, false, false, false, false, false, false] (by kernel_rfl) rfl rfl ⟨(blk_cell BK181.out 0).trans rfl, (blk_cell BK181.out 1).trans rfl, (blk_cell BK181.out 2).trans rfl⟩ (fun hHeld => ?_); refine with_tabW echelonref15_Bytes.tab1 echelonref15_Bytes.bits1 (fun HT_ HW_ => ?_)
      generalize w7.drew = w8 at BK181 HB hHeld ⊢
      refine pure_ (i := 0) (N := some 5) (v := ?_) (a' := ?_) #[true, false, false, false, false, false, false, false, false, false] rfl rfl (any_of HT_.out (by kernel_rfl)) (fun _ _ _ h => h) (Or.inl ⟨by rfl, ?_⟩) ?_ ?_
      rotate_left
      · intro w'
        go_simp
        with_reducible rfl
      rotate_left
      · simp only [Act.put, List.setIfInBounds_toArray, List.set_cons_zero, List.set_cons_succ, i64_w, i32_w]
        rfl
      refine pure_ (i := 4) (N := some 9) (v := ?_) (a' := ?_) #[true, false, false, false, true, false, false, false, false, false] rfl rfl (any_of HT_.out (by kernel_rfl)) (fun _ _ _ h => h) (Or.inl ⟨by rfl, ?_⟩) ?_ ?_
      rotate_left
      · intro w'
        go_simp
        with_reducible rfl
      rotate_left
      · simp only [Act.put, List.setIfInBounds_toArray, List.set_cons_zero, List.set_cons_succ, i64_w, i32_w]
        rfl
      refine take_ (i := 1) (N := some 6) (v := ?_) (a' := ?_) #[true, true, false, false, true, false, false, false, false, false] rfl rfl (take_ofW HT_.out HW_.out (by kernel_rfl)) (fun _ _ _ h => h) (Or.inl ⟨by rfl, ?_⟩) hHeld ?_ ?_
      rotate_left
      · rintro w' ⟨s0, s1, s2⟩
        go_simp
        with_reducible rfl
      rotate_left
      · simp only [Act.put, List.setIfInBounds_toArray, List.set_cons_zero, List.set_cons_succ, i64_w, i32_w]
        rfl
      refine pure_ (i := 2) (N := some 7) (v := ?_) (a' := ?_) #[true, true, true, false, true, false, false, false, false, false] rfl rfl (any_of HT_.out (by kernel_rfl)) (fun _ _ _ h => h) (Or.inl ⟨by rfl, ?_⟩) ?_ ?_
      rotate_left
      · intro w'
        go_simp
        with_reducible rfl
      rotate_left
      · simp only [Act.put, List.setIfInBounds_toArray, List.set_cons_zero, List.set_cons_succ, i64_w, i32_w]
        rfl
      refine take_ (i := 5) (N := some 10) (v := ?_) (a' := ?_) #[true, true, true, false, true, true, false, false, false, false] rfl rfl (take_ofW HT_.out HW_.out (by kernel_rfl)) (fun _ _ _ h => h) (Or.inl ⟨by rfl, ?_⟩) hHeld ?_ ?_
      rotate_left
      · rintro w' ⟨s0, s1, s2⟩
        go_simp
        with_reducible rfl
      rotate_left
      · simp only [Act.put, List.setIfInBounds_toArray, List.set_cons_zero, List.set_cons_succ, i64_w, i32_w]
        rfl
      refine pure_ (i := 6) (N := some 11) (v := ?_) (a' := ?_) #[true, true, true, false, true, true, true, false, false, false] rfl rfl (any_of HT_.out (by kernel_rfl)) (fun _ _ _ h => h) (Or.inl ⟨by rfl, ?_⟩) ?_ ?_
      rotate_left
      · intro w'
        go_simp
        with_reducible rfl
      rotate_left
      · simp only [Act.put, List.setIfInBounds_toArray, List.set_cons_zero, List.set_cons_succ, i64_w, i32_w]
        rfl
      refine one_ (i := 3) (N := some 8) #[true, true, true, true, true, true, true, false, false, false] rfl rfl (one_of HT_.out (by kernel_rfl)) (by decide) (fun K hK => ?_)
      refine goes_ Try.func78 (by kernel_rfl) rfl #[.int .u64 (IntKind.u64.wrap (a0_0))] (by rfl) rfl rfl (by (try simp only [List.map_toArray, List.map_cons, List.map_nil]); first | done | rfl | (simp only [List.length_drop, List.length_take]; rfl)) ?_
      with_reducible refine (echelonref01_Number.calls k (IntKind.u64.wrap (a0_0)) t182 _ A2.out).mono ?_
      rintro e w9 ⟨v183, rfl, ho0, hb⟩
      refine ⟨_, rfl, ?_⟩
      have n0_ := Aside0.mk (Kd.R_lower ho0 (below_size (by repeat (first | (with_reducible first | exact HB.out | apply below_alloc | apply pw_below_drewN | apply below_drew1 | refine below_set ?_ GE181.out) | exact HB.out))))
      have n1_ := Aside0.mk (blk_below (g := gb181) (o := .cells #[.int .i64 a0_0, .int .i64 a0_1, .slice A0_2 l0_2.length c0_2] 43 (0, 0)) (by (with_reducible repeat (first | refine blk_drewN ?_ _ | refine blk_drew ?_ | refine blk_alloc ?_ _)); exact BK181.out) hb)
      have n2_ := Aside0.mk (below_step (by repeat (first | (with_reducible first | exact HB.out | apply below_alloc | apply pw_below_drewN | apply below_drew1 | refine below_set ?_ GE181.out) | exact HB.out)) hb)
      clear BK181
      clear HB
      have HO184 := n0_
      have BK181 := n1_
      have HB := n2_
      clear n0_ n1_ n2_
      (try clear hb)
      (try clear hb2)
      (try clear hk)
      (try clear hi)
      (try clear ho0)
      refine hK.out _ _ ⟨(blk_cell BK181.out 0).trans rfl, (blk_cell BK181.out 1).trans rfl, (blk_cell BK181.out 2).trans rfl⟩ (fun hHeld => ?_)
      clear hK K
      refine norm_ (a' := ?_) ?_ ?_
      rotate_left
      · show Act.put _ (some 8) _ = _
        simp only [Act.put, List.setIfInBounds_toArray, List.set_cons_zero, List.set_cons_succ, i64_w, i32_w]
        rfl
      refine one_ (i := 7) (N := some 12) #[true, true, true, true, true, true, true, true, false, false] rfl rfl (one_of HT_.out (by kernel_rfl)) (by decide) (fun K hK => ?_)
      refine goes_ Try.func78 (by kernel_rfl) rfl #[.int .u64 (IntKind.u64.wrap (a0_1))] (by rfl) rfl rfl (by (try simp only [List.map_toArray, List.map_cons, List.map_nil]); first | done | rfl | (simp only [List.length_drop, List.length_take]; rfl)) ?_
      with_reducible refine (echelonref01_Number.calls k (IntKind.u64.wrap (a0_1)) t185 _ A3.out).mono ?_
      rintro e w10 ⟨v186, rfl, ho0, hb⟩
      refine ⟨_, rfl, ?_⟩
      have n0_ := Aside0.mk (Kd.R_elder' (by (with_reducible repeat (first | apply Kd.R_alloc | apply Kd.R_drewN | apply Kd.R_drew)); exact HO184.out) (Kd.R_base ho0) hb)
      have n1_ := Aside0.mk (Kd.R_lower (Kd.R_new' ho0 (Kd.R_lt (by (with_reducible repeat (first | apply Kd.R_alloc | apply Kd.R_drewN | apply Kd.R_drew)); exact HO184.out))) (below_size (by repeat (first | (with_reducible first | exact HB.out | apply below_alloc | apply pw_below_drewN | apply below_drew1 | refine below_set ?_ GE181.out) | exact HB.out))))
      have n2_ := Aside0.mk (blk_below (g := gb181) (o := .cells #[.int .i64 a0_0, .int .i64 a0_1, .slice A0_2 l0_2.length c0_2] 43 (0, 0)) (by (with_reducible repeat (first | refine blk_drewN ?_ _ | refine blk_drew ?_ | refine blk_alloc ?_ _)); exact BK181.out) hb)
      have n3_ := Aside0.mk (below_step (by repeat (first | (with_reducible first | exact HB.out | apply below_alloc | apply pw_below_drewN | apply below_drew1 | refine below_set ?_ GE181.out) | exact HB.out)) hb)
      clear HO184
      clear BK181
      clear HB
      have HO184 := n0_
      have HO187 := n1_
      have BK181 := n2_
      have HB := n3_
      clear n0_ n1_ n2_ n3_
      (try clear hb)
      (try clear hb2)
      (try clear hk)
      (try clear hi)
      (try clear ho0)
      obtain ⟨Ao12, co12, eo12⟩ := Kd.R_slice HO187.out
      (first | subst eo12 | (injection eo12 with f1_ f2_ f3_; have f4_ := f1_.symm; have f5_ := f3_.symm; clear f1_ f2_ f3_; subst f4_; subst f5_))
      refine hK.out _ _ ⟨(blk_cell BK181.out 0).trans rfl, (blk_cell BK181.out 1).trans rfl, (blk_cell BK181.out 2).trans rfl⟩ (fun hHeld => ?_)
      clear hK K
      refine norm_ (a' := ?_) ?_ ?_
      rotate_left
      · show Act.put _ (some 12) _ = _
        simp only [Act.put, List.setIfInBounds_toArray, List.set_cons_zero, List.set_cons_succ, i64_w, i32_w]
        rfl
      refine one_ (i := 8) (N := some 13) #[true, true, true, true, true, true, true, true, true, false] rfl rfl (one_of HT_.out (by kernel_rfl)) (by decide) (fun K hK => ?_)
      refine Kd.R_append_rows_step (Kd.int .u8) (w0 := w) w.heap.size (by rfl) (.tmp 8) (.tmp 12) 45 5 (.int .u8 0) 1 rfl Try.underlying45 info5 rfl (by decide) (by omega) v183 t182 t185 _ _ _ (fun k_ => some k_ ≠ (.slice Ao12 t185.length co12 : Value).ownBlock) (fun _ => False) rfl rfl ?aO ?aR (fun _ _ h => h) (fun _ h => h.elim) ?aF ?aB ?aS ?aL ?_
      (case aR => repeat (first | exact (Kd.R_reads' HO187.out).2.2 | (with_reducible refine Kd.C_alloc ?_ _) | (with_reducible refine Kd.C_drewN ?_ _) | (with_reducible refine Kd.C_drew ?_)))
      (case aB => exact (by repeat (first | (with_reducible first | exact HB.out | apply below_alloc | apply pw_below_drewN | apply below_drew1 | refine below_set ?_ GE181.out) | exact HB.out)))
      (case aF => exact (fun k_ hk => Kd.fresh' (Kd.R_lt (by (with_reducible repeat (first | apply Kd.R_alloc | apply Kd.R_drewN | apply Kd.R_drew)); exact HO187.out)) k_ hk))
      (case aO => exact (by (with_reducible repeat (first | apply Kd.R_alloc | apply Kd.R_drewN | apply Kd.R_drew)); exact Kd.R_mono HO184.out (fun _ hk => hk.2)))
      (case aS => exact (below_size (by repeat (first | (with_reducible first | exact HB.out | apply below_alloc | apply pw_below_drewN | apply below_drew1 | refine below_set ?_ GE181.out) | exact HB.out))))
      (case aL => have := LMc4.out; omega)
      intro v189 w11 ho hb hg hat
      rw [← Ny188.out] at ho
      have n0_ := Aside0.mk (blk_grown (g := gb181) (o := .cells #[.int .i64 a0_0, .int .i64 a0_1, .slice A0_2 l0_2.length c0_2] 43 (0, 0)) (by (with_reducible repeat (first | refine blk_drewN ?_ _ | refine blk_drew ?_ | refine blk_alloc ?_ _)); exact BK181.out) hg (Kd.R_ne HO184.out BK181.out (by decide)))
      have n1_ := Aside0.mk (Kd.R_after (ok := (fun _ => True)) (by (with_reducible repeat (first | apply Kd.R_alloc | apply Kd.R_drewN | apply Kd.R_drew)); exact HO187.out) hg hat)
      have n2_ := Aside0.mk (hb)
      have n3_ := Aside0.mk (ho)
      clear BK181
      clear HO187
      clear HB
      clear HO184
      have BK181 := n0_
      have HO187 := n1_
      have HB := n2_
      have HO190 := n3_
      clear n0_ n1_ n2_ n3_
      clear ho hb hg hat
      refine hK.out _ _ ⟨(blk_cell BK181.out 0).trans rfl, (blk_cell BK181.out 1).trans rfl, (blk_cell BK181.out 2).trans rfl⟩ (fun hHeld => ?_)
      clear hK K
      refine norm_ (a' := ?_) ?_ ?_
      rotate_left
      · show Act.put _ (some 13) _ = _
        simp only [Act.put, List.setIfInBounds_toArray, List.set_cons_zero, List.set_cons_succ, i64_w, i32_w]
        rfl
      refine pure_ (i := 9) (N := some 3) (v := ?_) (a' := ?_) #[true, true, true, true, true, true, true, true, true, true] rfl rfl (any_of HT_.out (by kernel_rfl)) (fun _ _ _ h => h) (Or.inl ⟨by rfl, ?_⟩) ?_ ?_
      rotate_left
      · intro w'
        go_simp
        with_reducible rfl
      rotate_left
      · simp only [Act.put, List.setIfInBounds_toArray, List.set_cons_zero, List.set_cons_succ, i64_w, i32_w]
        rfl
      refine done_ (done_of HT_.out (by kernel_rfl)) ?_
      have hcz13_0 : w11.cell? ⟨gb181, 0, none⟩ = some (.int .i64 a0_0) := (blk_cell BK181.out 0).trans rfl
      have hcz13_1 : w11.cell? ⟨gb181, 1, none⟩ = some (.int .i64 a0_1) := (blk_cell BK181.out 1).trans rfl
      have hcz13_2 : w11.cell? ⟨gb181, 2, none⟩ = some (.slice A0_2 l0_2.length c0_2) := (blk_cell BK181.out 2).trans rfl
      have hfz13_0 := blk_frozen BK181.out 0
      have hfz13_1 := blk_frozen BK181.out 1
      have hfz13_2 := blk_frozen BK181.out 2
      try go_wp2_with (first | ((with_reducible refine gate_callee (f := 78) rfl ?_); refine goesL_ (some 19) rfl rfl Try.func78 (by kernel_rfl) rfl #[.int .u64 (IntKind.u64.wrap ((l0_2.length : Int)))] rfl (by (try simp only [List.map_toArray, List.map_cons, List.map_nil]); first | done | rfl | (simp only [List.length_drop, List.length_take]; rfl)) ?_; (with_reducible refine (echelonref01_Number.calls k (IntKind.u64.wrap ((l0_2.length : Int))) t191 _ A5.out).mono ?_); rintro e w14 ⟨v192, rfl, ho0, hb⟩; refine ⟨_, rfl, ?_⟩; have n0_ := Aside0.mk (Kd.R_elder' (by (with_reducible repeat (first | apply Kd.R_alloc | apply Kd.R_drewN | apply Kd.R_drew)); exact HO187.out) (Kd.R_base ho0) hb); have n1_ := Aside0.mk (Kd.R_elder' (by (with_reducible repeat (first | apply Kd.R_alloc | apply Kd.R_drewN | apply Kd.R_drew)); exact HO190.out) (Kd.R_base ho0) hb); have n2_ := Aside0.mk (Kd.R_lower (Kd.R_new' (Kd.R_new' ho0 (Kd.R_lt (by (with_reducible repeat (first | apply Kd.R_alloc | apply Kd.R_drewN | apply Kd.R_drew)); exact HO187.out))) (Kd.R_lt (by (with_reducible repeat (first | apply Kd.R_alloc | apply Kd.R_drewN | apply Kd.R_drew)); exact HO190.out))) (below_size (by repeat (first | (with_reducible first | exact HB.out | apply below_alloc | apply pw_below_drewN | apply below_drew1 | refine below_set ?_ GE181.out) | exact HB.out)))); have n3_ := Aside0.mk (blk_below (g := gb181) (o := .cells #[.int .i64 a0_0, .int .i64 a0_1, .slice A0_2 l0_2.length c0_2] 43 (0, 0)) (by (with_reducible repeat (first | refine blk_drewN ?_ _ | refine blk_drew ?_ | refine blk_alloc ?_ _)); exact BK181.out) hb); have n4_ := Aside0.mk (below_step (by repeat (first | (with_reducible first | exact HB.out | apply below_alloc | apply pw_below_drewN | apply below_drew1 | refine below_set ?_ GE181.out) | exact HB.out)) hb); clear HO187; clear HO190; clear BK181; clear HB; have HO187 := n0_; have HO190 := n1_; have HO193 := n2_; have BK181 := n3_; have HB := n4_; clear n0_ n1_ n2_ n3_ n4_; (try clear hb); (try clear hb2); (try clear hk); (try clear hi); (try clear ho0); obtain ⟨Ao16, co16, eo16⟩ := Kd.R_slice HO193.out; subst eo16) | ((with_reducible refine gate_builtin (b := .append) (xs := #[.tmp 14, .tmp 19]) rfl ?_); at_builtin; refine Kd.R_append_rows (Kd.int .u8) (w0 := w) w.heap.size rfl (.tmp 14) (.tmp 19) 45 5 (.int .u8 0) 1 rfl Try.underlying45 info5 rfl (by decide) (by omega) v189 y188 t191 _ _ _ (fun k_ => some k_ ≠ (.slice Ao12 t185.length co12 : Value).ownBlock ∧ some k_ ≠ (.slice Ao16 t191.length co16 : Value).ownBlock) (fun _ => False) rfl rfl ?aO ?aR (fun _ _ h => h) (fun _ h => h.elim) ?aF ?aB ?aS ?aL ?_; (case aR => repeat (first | exact (Kd.R_reads' HO193.out).2.2 | (with_reducible refine Kd.C_alloc ?_ _) | (with_reducible refine Kd.C_drewN ?_ _) | (with_reducible refine Kd.C_drew ?_))); (case aB => exact (by repeat (first | (with_reducible first | exact HB.out | apply below_alloc | apply pw_below_drewN | apply below_drew1 | refine below_set ?_ GE181.out) | exact HB.out))); (case aF => exact (fun k_ hk => ⟨Kd.fresh' (Kd.R_lt (by (with_reducible repeat (first | apply Kd.R_alloc | apply Kd.R_drewN | apply Kd.R_drew)); exact HO187.out)) k_ hk, Kd.fresh' (Kd.R_lt (by (with_reducible repeat (first | apply Kd.R_alloc | apply Kd.R_drewN | apply Kd.R_drew)); exact HO193.out)) k_ hk⟩)); (case aO => exact (by (with_reducible repeat (first | apply Kd.R_alloc | apply Kd.R_drewN | apply Kd.R_drew)); exact HO190.out)); (case aS => exact (below_size (by repeat (first | (with_reducible first | exact HB.out | apply below_alloc | apply pw_below_drewN | apply below_drew1 | refine below_set ?_ GE181.out) | exact HB.out)))); (case aL => have := LMc6.out; omega); intro v195 w15 ho hb hg hat; rw [← Ny194.out] at ho; have n0_ := Aside0.mk (blk_grown (g := gb181) (o := .cells #[.int .i64 a0_0, .int .i64 a0_1, .slice A0_2 l0_2.length c0_2] 43 (0, 0)) (by (with_reducible repeat (first | refine blk_drewN ?_ _ | refine blk_drew ?_ | refine blk_alloc ?_ _)); exact BK181.out) hg (Kd.R_ne HO190.out BK181.out (by decide))); have n1_ := Aside0.mk (Kd.R_after (ok := (fun k_ => some k_ ≠ (.slice Ao16 t191.length co16 : Value).ownBlock)) (by (with_reducible repeat (first | apply Kd.R_alloc | apply Kd.R_drewN | apply Kd.R_drew)); exact Kd.R_mono HO187.out (fun _ hk => ⟨hk.2, hk.1.2⟩)) hg hat); have n2_ := Aside0.mk (Kd.R_after (ok := (fun k_ => some k_ ≠ (.slice Ao12 t185.length co12 : Value).ownBlock)) (by (with_reducible repeat (first | apply Kd.R_alloc | apply Kd.R_drewN | apply Kd.R_drew)); exact Kd.R_mono HO193.out (fun _ hk => ⟨hk.1.2, hk.2⟩)) hg hat); have n3_ := Aside0.mk (hb); have n4_ := Aside0.mk (ho); clear BK181; clear HO187; clear HO193; clear HB; clear HO190; have BK181 := n0_; have HO187 := n1_; have HO193 := n2_; have HB := n3_; have HO196 := n4_; clear n0_ n1_ n2_ n3_ n4_; clear ho hb hg hat))
      go_loopg [3, 4] k (fun kq v3 v4 w' => ∃ (x3_1 : List Int) (x4_1 : Int), v4 = .int .i64 x4_1 ∧ Aside0 (echelonref15_Bytes.l0 kq x3_1 x4_1 a0_0 a0_1 l0_2 = some r) ∧ Aside0 (kq ≤ k) ∧ Aside0 (Kd.R (Kd.int .u8) 5 w' w.heap.size (fun _ => True) v3 x3_1) ∧ Aside0 (w'.heap[gb181]? = some (.cells #[.int .i64 a0_0, .int .i64 a0_1, (.slice A0_2 l0_2.length c0_2)] 43 (0, 0))) ∧ Aside0 (Below w.heap.size w w'))
      case atStart => exact ⟨(y194), (0), (by first | rfl | (simp; done) | (simp [*]; done)), H', ⟨Nat.le_refl _⟩, ⟨by (with_reducible repeat (first | apply Kd.R_alloc | apply Kd.R_drewN | apply Kd.R_drew)); exact Kd.R_mono HO196.out (fun _ hk => trivial)⟩, ⟨by (with_reducible repeat (first | refine blk_drewN ?_ _ | refine blk_drew ?_ | refine blk_alloc ?_ _)); exact BK181.out⟩, ⟨by repeat (first | (with_reducible first | exact HB.out | apply below_alloc | apply pw_below_drewN | apply below_drew1 | refine below_set ?_ GE181.out) | exact HB.out)⟩⟩
      case round =>
        clear H'
        try clear c2
        try clear p2
        try clear c4
        try clear c6
        try clear c7
        try clear hcz13_0
        try clear hcz13_1
        try clear hcz13_2
        try clear hfz13_0
        try clear hfz13_1
        try clear hfz13_2
        obtain ⟨x3_1, x4_1, rfl, HA, HK1, HO_3, BK181, HB⟩ := hrel
        cases gk with
        | zero => exact absurd HA.out (by simp [echelonref15_Bytes.l0])
        | succ k1 =>
          have H := HA.out
          clear HA
          simp only [echelonref15_Bytes.l0] at H
          by_cases c17 : x4_1 < (l0_2.length : Int)
          · rw [if_pos c17] at H
            have c17b0 : decide (x4_1 < (l0_2.length : Int)) = true := decide_eq_true c17
            clear c17
            by_cases c18 : 0 ≤ x4_1
            · rw [if_pos c18] at H
              have c18b0 : decide (0 ≤ x4_1) = true := decide_eq_true c18
              clear c18
              replace H := Option.bind_eq_some_iff.mp H
              obtain ⟨t198, A190, H⟩ := H
              replace H : (if x3_1.length + t198.length < 140737488355328 then ((some (x3_1 ++ t198 : List Int)).bind fun y201 => ((echelonref15_list.f k1 ((rd_T51 l0_2 x4_1).f1)).bind fun t205 => (if y201.length + t205.length < 140737488355328 then ((some (y201 ++ t205 : List Int)).bind fun y208 => ((echelonref01_Number.f k1 (IntKind.u64.wrap ((rd_T51 l0_2 x4_1).f2))).bind fun t212 => (if y208.length + t212.length < 140737488355328 then (echelonref15_Bytes.l0 k1 (y208 ++ t212) (wrap64 (x4_1 + 1)) a0_0 a0_1 l0_2) else (none)))) else (none)))) else (none)) = some r := H
              have A19 := Aside0.mk A190
              clear A190
              by_cases c20 : x3_1.length + t198.length < 140737488355328
              · rw [if_pos c20] at H
                have LMc20 := Aside0.mk c20
                clear c20
                obtain ⟨y201, hy201⟩ : ∃ y_ : List Int, y_ = (x3_1 ++ t198) := ⟨_, rfl⟩
                replace H : ((echelonref15_list.f k1 ((rd_T51 l0_2 x4_1).f1)).bind fun t205 => (if y201.length + t205.length < 140737488355328 then ((some (y201 ++ t205 : List Int)).bind fun y208 => ((echelonref01_Number.f k1 (IntKind.u64.wrap ((rd_T51 l0_2 x4_1).f2))).bind fun t212 => (if y208.length + t212.length < 140737488355328 then (echelonref15_Bytes.l0 k1 (y208 ++ t212) (wrap64 (x4_1 + 1)) a0_0 a0_1 l0_2) else (none)))) else (none))) = some r := by first | (rw [hy201]; with_reducible exact H) | (have H2_ := (Option.bind_some _ _).symm.trans H; rw [hy201]; with_reducible exact H2_) | (have H2_ := (Option.bind_some _ _).symm.trans H; with_reducible exact H2_) | with_reducible exact H | (rw [hy201]; exact H) | exact H
                have Ny201 := Aside0.mk hy201
                clear hy201
                replace H := Option.bind_eq_some_iff.mp H
                obtain ⟨t205, A210, H⟩ := H
                replace H : (if y201.length + t205.length < 140737488355328 then ((some (y201 ++ t205 : List Int)).bind fun y208 => ((echelonref01_Number.f k1 (IntKind.u64.wrap ((rd_T51 l0_2 x4_1).f2))).bind fun t212 => (if y208.length + t212.length < 140737488355328 then (echelonref15_Bytes.l0 k1 (y208 ++ t212) (wrap64 (x4_1 + 1)) a0_0 a0_1 l0_2) else (none)))) else (none)) = some r := H
                have A21 := Aside0.mk A210
                clear A210
                by_cases c22 : y201.length + t205.length < 140737488355328
                · rw [if_pos c22] at H
                  have LMc22 := Aside0.mk c22
                  clear c22
                  obtain ⟨y208, hy208⟩ : ∃ y_ : List Int, y_ = (y201 ++ t205) := ⟨_, rfl⟩
                  replace H : ((echelonref01_Number.f k1 (IntKind.u64.wrap ((rd_T51 l0_2 x4_1).f2))).bind fun t212 => (if y208.length + t212.length < 140737488355328 then (echelonref15_Bytes.l0 k1 (y208 ++ t212) (wrap64 (x4_1 + 1)) a0_0 a0_1 l0_2) else (none))) = some r := by first | (rw [hy208]; with_reducible exact H) | (have H2_ := (Option.bind_some _ _).symm.trans H; rw [hy208]; with_reducible exact H2_) | (have H2_ := (Option.bind_some _ _).symm.trans H; with_reducible exact H2_) | with_reducible exact H | (rw [hy208]; exact H) | exact H
                  have Ny208 := Aside0.mk hy208
                  clear hy208
                  replace H := Option.bind_eq_some_iff.mp H
                  obtain ⟨t212, A230, H⟩ := H
                  replace H : (if y208.length + t212.length < 140737488355328 then (echelonref15_Bytes.l0 k1 (y208 ++ t212) (wrap64 (x4_1 + 1)) a0_0 a0_1 l0_2) else (none)) = some r := H
                  have A23 := Aside0.mk A230
                  clear A230
                  by_cases c24 : y208.length + t212.length < 140737488355328
                  · rw [if_pos c24] at H
                    have LMc24 := Aside0.mk c24
                    clear c24
                    obtain ⟨y215, hy215⟩ : ∃ y_ : List Int, y_ = (y208 ++ t212) := ⟨_, rfl⟩
                    replace H : (echelonref15_Bytes.l0 k1 y215 (wrap64 (x4_1 + 1)) a0_0 a0_1 l0_2) = some r := by first | (rw [hy215]; with_reducible exact H) | (have H2_ := (Option.bind_some _ _).symm.trans H; rw [hy215]; with_reducible exact H2_) | (have H2_ := (Option.bind_some _ _).symm.trans H; with_reducible exact H2_) | with_reducible exact H | (rw [hy215]; exact H) | exact H
                    have Ny215 := Aside0.mk hy215
                    clear hy215
                    have H' := Aside0.mk H
                    clear H
                    have hcz25_0 : wr.cell? ⟨gb181, 0, none⟩ = some (.int .i64 a0_0) := (blk_cell BK181.out 0).trans rfl
                    have hcz25_1 : wr.cell? ⟨gb181, 1, none⟩ = some (.int .i64 a0_1) := (blk_cell BK181.out 1).trans rfl
                    have hcz25_2 : wr.cell? ⟨gb181, 2, none⟩ = some (.slice A0_2 l0_2.length c0_2) := (blk_cell BK181.out 2).trans rfl
                    have hfz25_0 := blk_frozen BK181.out 0
                    have hfz25_1 := blk_frozen BK181.out 1
                    have hfz25_2 := blk_frozen BK181.out 2
                    have p197 : 0 ≤ (x4_1 : Int) := of_decide_eq_true (by first | (with_reducible assumption) | assumption)
                    have q197 : x4_1 < (l0_2.length : Int) := of_decide_eq_true (by first | (with_reducible assumption) | assumption)
                    obtain ⟨ad197, A197_0, c197_0, A197_1, c197_1, e197, hx197_0, hx197_1, hx197_2, hl197_0, hi197_0, hl197_1, hi197_1⟩ := at_T51 HR0_2.out x4_1 p197 q197
                    cases e197
                    replace hx197_0 := (HB.out.cell (World.block_lt_of_cell? w _ hx197_0)).trans hx197_0
                    replace hx197_1 := (HB.out.cell (World.block_lt_of_cell? w _ hx197_1)).trans hx197_1
                    replace hx197_2 := (HB.out.cell (World.block_lt_of_cell? w _ hx197_2)).trans hx197_2
                    have HR197_0 := Aside0.mk hi197_0
                    have HC197_0 := Aside0.mk hl197_0
                    clear hi197_0 hl197_0
                    have HR197_1 := Aside0.mk hi197_1
                    have HC197_1 := Aside0.mk hl197_1
                    clear hi197_1 hl197_1
                    replace p197 := eq_true p197
                    replace q197 := eq_true q197
                    go_wp2_with (first | ((with_reducible refine gate_callee (f := 79) rfl ?_); refine goesL_ (some 35) rfl rfl Try.func79 (by kernel_rfl) rfl #[.slice A197_0 ((rd_T51 l0_2 x4_1).f0).length c197_0] rfl (by (try simp only [List.map_toArray, List.map_cons, List.map_nil]); first | done | rfl | (simp only [List.length_drop, List.length_take]; rfl)) ?_; (with_reducible refine (echelonref15_list.calls k1 _ _ ((rd_T51 l0_2 x4_1).f0) t198 _ ?side1 ?side2 A19.out).mono ?_); (case side1 => repeat (first | exact (Kd.C_below HR197_0.out HB.out) | (with_reducible refine Kd.C_alloc ?_ _) | (with_reducible refine Kd.C_drewN ?_ _) | (with_reducible refine Kd.C_drew ?_))); (case side2 => exact HC197_0.out); rintro e w26 ⟨v199, rfl, ho0, hb⟩; refine ⟨_, rfl, ?_⟩; have n0_ := Aside0.mk (Kd.R_elder' (by (with_reducible repeat (first | apply Kd.R_alloc | apply Kd.R_drewN | apply Kd.R_drew)); exact HO_3.out) (Kd.R_base ho0) hb); have n1_ := Aside0.mk (Kd.R_lower (Kd.R_new' ho0 (Kd.R_lt (by (with_reducible repeat (first | apply Kd.R_alloc | apply Kd.R_drewN | apply Kd.R_drew)); exact HO_3.out))) (below_size (by repeat (first | (with_reducible first | exact HB.out | apply below_alloc | apply pw_below_drewN | apply below_drew1 | refine below_set ?_ GE181.out) | exact HB.out)))); have n2_ := Aside0.mk (blk_below (g := gb181) (o := .cells #[.int .i64 a0_0, .int .i64 a0_1, .slice (some ad197) l0_2.length c0_2] 43 (0, 0)) (by (with_reducible repeat (first | refine blk_drewN ?_ _ | refine blk_drew ?_ | refine blk_alloc ?_ _)); exact BK181.out) hb); have n3_ := Aside0.mk (below_step (by repeat (first | (with_reducible first | exact HB.out | apply below_alloc | apply pw_below_drewN | apply below_drew1 | refine below_set ?_ GE181.out) | exact HB.out)) hb); clear HO_3; clear BK181; clear HB; have HO_3 := n0_; have HO200 := n1_; have BK181 := n2_; have HB := n3_; clear n0_ n1_ n2_ n3_; (try clear hb); (try clear hb2); (try clear hk); (try clear hi); (try clear ho0); obtain ⟨Ao28, co28, eo28⟩ := Kd.R_slice HO200.out; subst eo28) | ((with_reducible refine gate_builtin (b := .append) (xs := #[.tmp 28, .tmp 35]) rfl ?_); at_builtin; refine Kd.R_append_rows (Kd.int .u8) (w0 := w) w.heap.size rfl (.tmp 28) (.tmp 35) 45 5 (.int .u8 0) 1 rfl Try.underlying45 info5 rfl (by decide) (by omega) u3 x3_1 t198 _ _ _ (fun k_ => some k_ ≠ (.slice Ao28 t198.length co28 : Value).ownBlock) (fun _ => False) rfl rfl ?aO ?aR (fun _ _ h => h) (fun _ h => h.elim) ?aF ?aB ?aS ?aL ?_; (case aR => repeat (first | exact (Kd.R_reads' HO200.out).2.2 | (with_reducible refine Kd.C_alloc ?_ _) | (with_reducible refine Kd.C_drewN ?_ _) | (with_reducible refine Kd.C_drew ?_))); (case aB => exact (by repeat (first | (with_reducible first | exact HB.out | apply below_alloc | apply pw_below_drewN | apply below_drew1 | refine below_set ?_ GE181.out) | exact HB.out))); (case aF => exact (fun k_ hk => Kd.fresh' (Kd.R_lt (by (with_reducible repeat (first | apply Kd.R_alloc | apply Kd.R_drewN | apply Kd.R_drew)); exact HO200.out)) k_ hk)); (case aO => exact (by (with_reducible repeat (first | apply Kd.R_alloc | apply Kd.R_drewN | apply Kd.R_drew)); exact Kd.R_mono HO_3.out (fun _ hk => hk.2))); (case aS => exact (below_size (by repeat (first | (with_reducible first | exact HB.out | apply below_alloc | apply pw_below_drewN | apply below_drew1 | refine below_set ?_ GE181.out) | exact HB.out)))); (case aL => have := LMc20.out; omega); intro v202 w27 ho hb hg hat; rw [← Ny201.out] at ho; have n0_ := Aside0.mk (blk_grown (g := gb181) (o := .cells #[.int .i64 a0_0, .int .i64 a0_1, .slice (some ad197) l0_2.length c0_2] 43 (0, 0)) (by (with_reducible repeat (first | refine blk_drewN ?_ _ | refine blk_drew ?_ | refine blk_alloc ?_ _)); exact BK181.out) hg (Kd.R_ne HO_3.out BK181.out (by decide))); have n1_ := Aside0.mk (Kd.R_after (ok := (fun _ => True)) (by (with_reducible repeat (first | apply Kd.R_alloc | apply Kd.R_drewN | apply Kd.R_drew)); exact HO200.out) hg hat); have n2_ := Aside0.mk (hb); have n3_ := Aside0.mk (ho); clear BK181; clear HO200; clear HB; clear HO_3; have BK181 := n0_; have HO200 := n1_; have HB := n2_; have HO203 := n3_; clear n0_ n1_ n2_ n3_; clear ho hb hg hat; have hcz29_0 : w27.cell? ⟨gb181, 0, none⟩ = some (.int .i64 a0_0) := (blk_cell BK181.out 0).trans rfl; have hcz29_1 : w27.cell? ⟨gb181, 1, none⟩ = some (.int .i64 a0_1) := (blk_cell BK181.out 1).trans rfl; have hcz29_2 : w27.cell? ⟨gb181, 2, none⟩ = some (.slice (some ad197) l0_2.length c0_2) := (blk_cell BK181.out 2).trans rfl; have hfz29_0 := blk_frozen BK181.out 0; have hfz29_1 := blk_frozen BK181.out 1; have hfz29_2 := blk_frozen BK181.out 2; have p204 : 0 ≤ (x4_1 : Int) := of_decide_eq_true (by first | (with_reducible assumption) | assumption); have q204 : x4_1 < (l0_2.length : Int) := of_decide_eq_true (by first | (with_reducible assumption) | assumption); obtain ⟨ad204, A204_0, c204_0, A204_1, c204_1, e204, hx204_0, hx204_1, hx204_2, hl204_0, hi204_0, hl204_1, hi204_1⟩ := at_T51 HR0_2.out x4_1 p204 q204; obtain rfl : ad197 = ad204 := (by injection e204); replace hx204_0 := (HB.out.cell (World.block_lt_of_cell? w _ hx204_0)).trans hx204_0; replace hx204_1 := (HB.out.cell (World.block_lt_of_cell? w _ hx204_1)).trans hx204_1; replace hx204_2 := (HB.out.cell (World.block_lt_of_cell? w _ hx204_2)).trans hx204_2; have HR204_0 := Aside0.mk hi204_0; have HC204_0 := Aside0.mk hl204_0; clear hi204_0 hl204_0; have HR204_1 := Aside0.mk hi204_1; have HC204_1 := Aside0.mk hl204_1; clear hi204_1 hl204_1; replace p204 := eq_true p204; replace q204 := eq_true q204) | ((with_reducible refine gate_callee (f := 79) rfl ?_); refine goesL_ (some 44) rfl rfl Try.func79 (by kernel_rfl) rfl #[.slice A204_1 ((rd_T51 l0_2 x4_1).f1).length c204_1] rfl (by (try simp only [List.map_toArray, List.map_cons, List.map_nil]); first | done | rfl | (simp only [List.length_drop, List.length_take]; rfl)) ?_; (with_reducible refine (echelonref15_list.calls k1 _ _ ((rd_T51 l0_2 x4_1).f1) t205 _ ?side1 ?side2 A21.out).mono ?_); (case side1 => repeat (first | exact (Kd.C_below HR204_1.out HB.out) | (with_reducible refine Kd.C_alloc ?_ _) | (with_reducible refine Kd.C_drewN ?_ _) | (with_reducible refine Kd.C_drew ?_))); (case side2 => exact HC204_1.out); rintro e w30 ⟨v206, rfl, ho0, hb⟩; refine ⟨_, rfl, ?_⟩; have n0_ := Aside0.mk (Kd.R_elder' (by (with_reducible repeat (first | apply Kd.R_alloc | apply Kd.R_drewN | apply Kd.R_drew)); exact HO200.out) (Kd.R_base ho0) hb); have n1_ := Aside0.mk (Kd.R_elder' (by (with_reducible repeat (first | apply Kd.R_alloc | apply Kd.R_drewN | apply Kd.R_drew)); exact HO203.out) (Kd.R_base ho0) hb); have n2_ := Aside0.mk (Kd.R_lower (Kd.R_new' (Kd.R_new' ho0 (Kd.R_lt (by (with_reducible repeat (first | apply Kd.R_alloc | apply Kd.R_drewN | apply Kd.R_drew)); exact HO200.out))) (Kd.R_lt (by (with_reducible repeat (first | apply Kd.R_alloc | apply Kd.R_drewN | apply Kd.R_drew)); exact HO203.out))) (below_size (by repeat (first | (with_reducible first | exact HB.out | apply below_alloc | apply pw_below_drewN | apply below_drew1 | refine below_set ?_ GE181.out) | exact HB.out)))); have n3_ := Aside0.mk (blk_below (g := gb181) (o := .cells #[.int .i64 a0_0, .int .i64 a0_1, .slice (some ad197) l0_2.length c0_2] 43 (0, 0)) (by (with_reducible repeat (first | refine blk_drewN ?_ _ | refine blk_drew ?_ | refine blk_alloc ?_ _)); exact BK181.out) hb); have n4_ := Aside0.mk (below_step (by repeat (first | (with_reducible first | exact HB.out | apply below_alloc | apply pw_below_drewN | apply below_drew1 | refine below_set ?_ GE181.out) | exact HB.out)) hb); clear HO200; clear HO203; clear BK181; clear HB; have HO200 := n0_; have HO203 := n1_; have HO207 := n2_; have BK181 := n3_; have HB := n4_; clear n0_ n1_ n2_ n3_ n4_; (try clear hb); (try clear hb2); (try clear hk); (try clear hi); (try clear ho0); obtain ⟨Ao32, co32, eo32⟩ := Kd.R_slice HO207.out; subst eo32) | ((with_reducible refine gate_builtin (b := .append) (xs := #[.tmp 37, .tmp 44]) rfl ?_); at_builtin; refine Kd.R_append_rows (Kd.int .u8) (w0 := w) w.heap.size rfl (.tmp 37) (.tmp 44) 45 5 (.int .u8 0) 1 rfl Try.underlying45 info5 rfl (by decide) (by omega) v202 y201 t205 _ _ _ (fun k_ => some k_ ≠ (.slice Ao28 t198.length co28 : Value).ownBlock ∧ some k_ ≠ (.slice Ao32 t205.length co32 : Value).ownBlock) (fun _ => False) rfl rfl ?aO ?aR (fun _ _ h => h) (fun _ h => h.elim) ?aF ?aB ?aS ?aL ?_; (case aR => repeat (first | exact (Kd.R_reads' HO207.out).2.2 | (with_reducible refine Kd.C_alloc ?_ _) | (with_reducible refine Kd.C_drewN ?_ _) | (with_reducible refine Kd.C_drew ?_))); (case aB => exact (by repeat (first | (with_reducible first | exact HB.out | apply below_alloc | apply pw_below_drewN | apply below_drew1 | refine below_set ?_ GE181.out) | exact HB.out))); (case aF => exact (fun k_ hk => ⟨Kd.fresh' (Kd.R_lt (by (with_reducible repeat (first | apply Kd.R_alloc | apply Kd.R_drewN | apply Kd.R_drew)); exact HO200.out)) k_ hk, Kd.fresh' (Kd.R_lt (by (with_reducible repeat (first | apply Kd.R_alloc | apply Kd.R_drewN | apply Kd.R_drew)); exact HO207.out)) k_ hk⟩)); (case aO => exact (by (with_reducible repeat (first | apply Kd.R_alloc | apply Kd.R_drewN | apply Kd.R_drew)); exact HO203.out)); (case aS => exact (below_size (by repeat (first | (with_reducible first | exact HB.out | apply below_alloc | apply pw_below_drewN | apply below_drew1 | refine below_set ?_ GE181.out) | exact HB.out)))); (case aL => have := LMc22.out; omega); intro v209 w31 ho hb hg hat; rw [← Ny208.out] at ho; have n0_ := Aside0.mk (blk_grown (g := gb181) (o := .cells #[.int .i64 a0_0, .int .i64 a0_1, .slice (some ad197) l0_2.length c0_2] 43 (0, 0)) (by (with_reducible repeat (first | refine blk_drewN ?_ _ | refine blk_drew ?_ | refine blk_alloc ?_ _)); exact BK181.out) hg (Kd.R_ne HO203.out BK181.out (by decide))); have n1_ := Aside0.mk (Kd.R_after (ok := (fun k_ => some k_ ≠ (.slice Ao32 t205.length co32 : Value).ownBlock)) (by (with_reducible repeat (first | apply Kd.R_alloc | apply Kd.R_drewN | apply Kd.R_drew)); exact Kd.R_mono HO200.out (fun _ hk => ⟨hk.2, hk.1.2⟩)) hg hat); have n2_ := Aside0.mk (Kd.R_after (ok := (fun k_ => some k_ ≠ (.slice Ao28 t198.length co28 : Value).ownBlock)) (by (with_reducible repeat (first | apply Kd.R_alloc | apply Kd.R_drewN | apply Kd.R_drew)); exact Kd.R_mono HO207.out (fun _ hk => ⟨hk.1.2, hk.2⟩)) hg hat); have n3_ := Aside0.mk (hb); have n4_ := Aside0.mk (ho); clear BK181; clear HO200; clear HO207; clear HB; clear HO203; have BK181 := n0_; have HO200 := n1_; have HO207 := n2_; have HB := n3_; have HO210 := n4_; clear n0_ n1_ n2_ n3_ n4_; clear ho hb hg hat; have hcz33_0 : w31.cell? ⟨gb181, 0, none⟩ = some (.int .i64 a0_0) := (blk_cell BK181.out 0).trans rfl; have hcz33_1 : w31.cell? ⟨gb181, 1, none⟩ = some (.int .i64 a0_1) := (blk_cell BK181.out 1).trans rfl; have hcz33_2 : w31.cell? ⟨gb181, 2, none⟩ = some (.slice (some ad197) l0_2.length c0_2) := (blk_cell BK181.out 2).trans rfl; have hfz33_0 := blk_frozen BK181.out 0; have hfz33_1 := blk_frozen BK181.out 1; have hfz33_2 := blk_frozen BK181.out 2; have p211 : 0 ≤ (x4_1 : Int) := of_decide_eq_true (by first | (with_reducible assumption) | assumption); have q211 : x4_1 < (l0_2.length : Int) := of_decide_eq_true (by first | (with_reducible assumption) | assumption); obtain ⟨ad211, A211_0, c211_0, A211_1, c211_1, e211, hx211_0, hx211_1, hx211_2, hl211_0, hi211_0, hl211_1, hi211_1⟩ := at_T51 HR0_2.out x4_1 p211 q211; obtain rfl : ad197 = ad211 := (by injection e211); replace hx211_0 := (HB.out.cell (World.block_lt_of_cell? w _ hx211_0)).trans hx211_0; replace hx211_1 := (HB.out.cell (World.block_lt_of_cell? w _ hx211_1)).trans hx211_1; replace hx211_2 := (HB.out.cell (World.block_lt_of_cell? w _ hx211_2)).trans hx211_2; have HR211_0 := Aside0.mk hi211_0; have HC211_0 := Aside0.mk hl211_0; clear hi211_0 hl211_0; have HR211_1 := Aside0.mk hi211_1; have HC211_1 := Aside0.mk hl211_1; clear hi211_1 hl211_1; replace p211 := eq_true p211; replace q211 := eq_true q211) | ((with_reducible refine gate_callee (f := 78) rfl ?_); refine goesL_ (some 54) rfl rfl Try.func78 (by kernel_rfl) rfl #[.int .u64 (IntKind.u64.wrap ((rd_T51 l0_2 x4_1).f2))] rfl (by (try simp only [List.map_toArray, List.map_cons, List.map_nil]); first | done | rfl | (simp only [List.length_drop, List.length_take]; rfl)) ?_; (with_reducible refine (echelonref01_Number.calls k1 (IntKind.u64.wrap ((rd_T51 l0_2 x4_1).f2)) t212 _ A23.out).mono ?_); rintro e w34 ⟨v213, rfl, ho0, hb⟩; refine ⟨_, rfl, ?_⟩; have n0_ := Aside0.mk (Kd.R_elder' (by (with_reducible repeat (first | apply Kd.R_alloc | apply Kd.R_drewN | apply Kd.R_drew)); exact HO200.out) (Kd.R_base ho0) hb); have n1_ := Aside0.mk (Kd.R_elder' (by (with_reducible repeat (first | apply Kd.R_alloc | apply Kd.R_drewN | apply Kd.R_drew)); exact HO207.out) (Kd.R_base ho0) hb); have n2_ := Aside0.mk (Kd.R_elder' (by (with_reducible repeat (first | apply Kd.R_alloc | apply Kd.R_drewN | apply Kd.R_drew)); exact HO210.out) (Kd.R_base ho0) hb); have n3_ := Aside0.mk (Kd.R_lower (Kd.R_new' (Kd.R_new' (Kd.R_new' ho0 (Kd.R_lt (by (with_reducible repeat (first | apply Kd.R_alloc | apply Kd.R_drewN | apply Kd.R_drew)); exact HO200.out))) (Kd.R_lt (by (with_reducible repeat (first | apply Kd.R_alloc | apply Kd.R_drewN | apply Kd.R_drew)); exact HO207.out))) (Kd.R_lt (by (with_reducible repeat (first | apply Kd.R_alloc | apply Kd.R_drewN | apply Kd.R_drew)); exact HO210.out))) (below_size (by repeat (first | (with_reducible first | exact HB.out | apply below_alloc | apply pw_below_drewN | apply below_drew1 | refine below_set ?_ GE181.out) | exact HB.out)))); have n4_ := Aside0.mk (blk_below (g := gb181) (o := .cells #[.int .i64 a0_0, .int .i64 a0_1, .slice (some ad197) l0_2.length c0_2] 43 (0, 0)) (by (with_reducible repeat (first | refine blk_drewN ?_ _ | refine blk_drew ?_ | refine blk_alloc ?_ _)); exact BK181.out) hb); have n5_ := Aside0.mk (below_step (by repeat (first | (with_reducible first | exact HB.out | apply below_alloc | apply pw_below_drewN | apply below_drew1 | refine below_set ?_ GE181.out) | exact HB.out)) hb); clear HO200; clear HO207; clear HO210; clear BK181; clear HB; have HO200 := n0_; have HO207 := n1_; have HO210 := n2_; have HO214 := n3_; have BK181 := n4_; have HB := n5_; clear n0_ n1_ n2_ n3_ n4_ n5_; (try clear hb); (try clear hb2); (try clear hk); (try clear hi); (try clear ho0); obtain ⟨Ao36, co36, eo36⟩ := Kd.R_slice HO214.out; subst eo36) | ((with_reducible refine gate_builtin (b := .append) (xs := #[.tmp 46, .tmp 54]) rfl ?_); at_builtin; refine Kd.R_append_rows (Kd.int .u8) (w0 := w) w.heap.size rfl (.tmp 46) (.tmp 54) 45 5 (.int .u8 0) 1 rfl Try.underlying45 info5 rfl (by decide) (by omega) v209 y208 t212 _ _ _ (fun k_ => some k_ ≠ (.slice Ao28 t198.length co28 : Value).ownBlock ∧ some k_ ≠ (.slice Ao32 t205.length co32 : Value).ownBlock ∧ some k_ ≠ (.slice Ao36 t212.length co36 : Value).ownBlock) (fun _ => False) rfl rfl ?aO ?aR (fun _ _ h => h) (fun _ h => h.elim) ?aF ?aB ?aS ?aL ?_; (case aR => repeat (first | exact (Kd.R_reads' HO214.out).2.2 | (with_reducible refine Kd.C_alloc ?_ _) | (with_reducible refine Kd.C_drewN ?_ _) | (with_reducible refine Kd.C_drew ?_))); (case aB => exact (by repeat (first | (with_reducible first | exact HB.out | apply below_alloc | apply pw_below_drewN | apply below_drew1 | refine below_set ?_ GE181.out) | exact HB.out))); (case aF => exact (fun k_ hk => ⟨Kd.fresh' (Kd.R_lt (by (with_reducible repeat (first | apply Kd.R_alloc | apply Kd.R_drewN | apply Kd.R_drew)); exact HO200.out)) k_ hk, Kd.fresh' (Kd.R_lt (by (with_reducible repeat (first | apply Kd.R_alloc | apply Kd.R_drewN | apply Kd.R_drew)); exact HO207.out)) k_ hk, Kd.fresh' (Kd.R_lt (by (with_reducible repeat (first | apply Kd.R_alloc | apply Kd.R_drewN | apply Kd.R_drew)); exact HO214.out)) k_ hk⟩)); (case aO => exact (by (with_reducible repeat (first | apply Kd.R_alloc | apply Kd.R_drewN | apply Kd.R_drew)); exact Kd.R_mono HO210.out (fun _ hk => ⟨hk.1.1, ⟨hk.1.2, hk.2⟩⟩))); (case aS => exact (below_size (by repeat (first | (with_reducible first | exact HB.out | apply below_alloc | apply pw_below_drewN | apply below_drew1 | refine below_set ?_ GE181.out) | exact HB.out)))); (case aL => have := LMc24.out; omega); intro v216 w35 ho hb hg hat; rw [← Ny215.out] at ho; have n0_ := Aside0.mk (blk_grown (g := gb181) (o := .cells #[.int .i64 a0_0, .int .i64 a0_1, .slice (some ad197) l0_2.length c0_2] 43 (0, 0)) (by (with_reducible repeat (first | refine blk_drewN ?_ _ | refine blk_drew ?_ | refine blk_alloc ?_ _)); exact BK181.out) hg (Kd.R_ne HO210.out BK181.out (by decide))); have n1_ := Aside0.mk (Kd.R_after (ok := (fun k_ => some k_ ≠ (.slice Ao32 t205.length co32 : Value).ownBlock ∧ some k_ ≠ (.slice Ao36 t212.length co36 : Value).ownBlock)) (by (with_reducible repeat (first | apply Kd.R_alloc | apply Kd.R_drewN | apply Kd.R_drew)); exact Kd.R_mono HO200.out (fun _ hk => ⟨⟨hk.1.1, hk.2⟩, hk.1.2⟩)) hg hat); have n2_ := Aside0.mk (Kd.R_after (ok := (fun k_ => some k_ ≠ (.slice Ao28 t198.length co28 : Value).ownBlock ∧ some k_ ≠ (.slice Ao36 t212.length co36 : Value).ownBlock)) (by (with_reducible repeat (first | apply Kd.R_alloc | apply Kd.R_drewN | apply Kd.R_drew)); exact Kd.R_mono HO207.out (fun _ hk => ⟨⟨hk.1.1, hk.2⟩, hk.1.2⟩)) hg hat); have n3_ := Aside0.mk (Kd.R_after (ok := (fun k_ => some k_ ≠ (.slice Ao28 t198.length co28 : Value).ownBlock ∧ some k_ ≠ (.slice Ao32 t205.length co32 : Value).ownBlock)) (by (with_reducible repeat (first | apply Kd.R_alloc | apply Kd.R_drewN | apply Kd.R_drew)); exact Kd.R_mono HO214.out (fun _ hk => ⟨⟨hk.1.1.2, hk.1.2⟩, hk.2⟩)) hg hat); have n4_ := Aside0.mk (hb); have n5_ := Aside0.mk (ho); clear BK181; clear HO200; clear HO207; clear HO214; clear HB; clear HO210; have BK181 := n0_; have HO200 := n1_; have HO207 := n2_; have HO214 := n3_; have HB := n4_; have HO217 := n5_; clear n0_ n1_ n2_ n3_ n4_ n5_; clear ho hb hg hat))
                    go_roundg k1
                    case measure => have := HK1.out; omega
                    case rel => exact ⟨(y215), (wrap64 (x4_1 + 1)), (by first | rfl | (simp; done) | (simp [*]; done)), H', ⟨by have := HK1.out; omega⟩, ⟨by (with_reducible repeat (first | apply Kd.R_alloc | apply Kd.R_drewN | apply Kd.R_drew)); exact Kd.R_mono HO217.out (fun _ hk => trivial)⟩, ⟨by (with_reducible repeat (first | refine blk_drewN ?_ _ | refine blk_drew ?_ | refine blk_alloc ?_ _)); exact BK181.out⟩, ⟨by repeat (first | (with_reducible first | exact HB.out | apply below_alloc | apply pw_below_drewN | apply below_drew1 | refine below_set ?_ GE181.out) | exact HB.out)⟩⟩
                  · rw [if_neg c24] at H
                    exact absurd H (by simp)
                · rw [if_neg c22] at H
                  exact absurd H (by simp)
              · rw [if_neg c20] at H
                exact absurd H (by simp)
            · rw [if_neg c18] at H
              exact absurd H (by simp)
          · rw [if_neg c17] at H
            have c17b0 : decide (x4_1 < (l0_2.length : Int)) = false := decide_eq_false c17
            clear c17
            obtain rfl := Option.some.inj H
            have hcz37_0 : wr.cell? ⟨gb181, 0, none⟩ = some (.int .i64 a0_0) := (blk_cell BK181.out 0).trans rfl
            have hcz37_1 : wr.cell? ⟨gb181, 1, none⟩ = some (.int .i64 a0_1) := (blk_cell BK181.out 1).trans rfl
            have hcz37_2 : wr.cell? ⟨gb181, 2, none⟩ = some (.slice A0_2 l0_2.length c0_2) := (blk_cell BK181.out 2).trans rfl
            have hfz37_0 := blk_frozen BK181.out 0
            have hfz37_1 := blk_frozen BK181.out 1
            have hfz37_2 := blk_frozen BK181.out 2
            go_wp2
            go_ret
            exact ⟨_, by first | rfl | (simp [errW_none, errW_some] <;> rfl) | (simp [*, errW_none, errW_some] <;> rfl), by (with_reducible repeat (first | apply Kd.R_alloc | apply Kd.R_drewN | apply Kd.R_drew)); exact HO_3.out, by repeat (first | (with_reducible first | exact HB.out | apply below_alloc | apply pw_below_drewN | apply below_drew1 | refine below_set ?_ GE181.out) | exact HB.out)⟩
    · rw [if_neg c6] at H
      exact absurd H (by simp)
  · rw [if_neg c4] at H
    exact absurd H (by simp)
mutual
def echelonref15_Count.l0 : Nat → Int → Int → Int → Int → Int → List (S51) → Option (Int)
  | 0, _, _, _, _, _, _ => none
  | k + 1, x1, x5, x6, x219000, x219001, x219002 => if x6 < (x219002.length : Int) then (echelonref15_Count.l1 k x1 x5 x6 0 x219000 x219001 x219002) else (some x5)
def echelonref15_Count.l1 : Nat → Int → Int → Int → Int → Int → Int → List (S51) → Option (Int)
  | 0, _, _, _, _, _, _, _ => none
  | k + 1, x1, x5, x6, x7, x219000, x219001, x219002 => if 0 ≤ x6 then (if x6 < (x219002.length : Int) then (if x7 < (((rd_T51 x219002 x6).f1).length : Int) then (if 0 ≤ x7 then (if (rd ((rd_T51 x219002 x6).f1) x7) = x1 then (echelonref15_Count.l1 k x1 (wrap64 (x5 + 1)) x6 (wrap64 (x7 + 1)) x219000 x219001 x219002) else (echelonref15_Count.l1 k x1 x5 x6 (wrap64 (x7 + 1)) x219000 x219001 x219002)) else (none)) else (echelonref15_Count.l0 k x1 x5 (wrap64 (x6 + 1)) x219000 x219001 x219002)) else (none)) else (none)
end
def echelonref15_Count.f (k : Nat) (a0_0 : Int) (a0_1 : Int) (l0_2 : List (S51)) (a1 : Int) : Option (Int) := echelonref15_Count.l0 k a1 0 0 a0_0 a0_1 l0_2
theorem echelonref15_Count.mono_l : ∀ k, (∀ y0 y1 y2 y3 y4 y5, LeO (echelonref15_Count.l0 k y0 y1 y2 y3 y4 y5) (echelonref15_Count.l0 (k + 1) y0 y1 y2 y3 y4 y5)) ∧ (∀ y0 y1 y2 y3 y4 y5 y6, LeO (echelonref15_Count.l1 k y0 y1 y2 y3 y4 y5 y6) (echelonref15_Count.l1 (k + 1) y0 y1 y2 y3 y4 y5 y6))
  | 0 => ⟨fun _ _ _ _ _ _ r h => by simp [echelonref15_Count.l0] at h, fun _ _ _ _ _ _ _ r h => by simp [echelonref15_Count.l1] at h⟩
  | k + 1 => by
    obtain ⟨ih0, ih1⟩ := echelonref15_Count.mono_l k
    refine ⟨?_, ?_⟩
    · intro y0 y1 y2 y3 y4 y5
      unfold echelonref15_Count.l0
      repeat' first
      | (with_reducible exact ih0 _ _ _ _ _ _)
      | (with_reducible exact ih1 _ _ _ _ _ _ _)
      | (with_reducible exact LeO.refl _)
      | (with_reducible exact LeO.none _)
      | (with_reducible refine LeO.ite ?_ ?_)
      | (with_reducible refine LeO.bind ?_ (fun _ => ?_))
      | exact ih0 _ _ _ _ _ _
      | exact ih1 _ _ _ _ _ _ _
      | exact LeO.none _
      | refine LeO.ite ?_ ?_
      | refine LeO.bind ?_ (fun _ => ?_)
    · intro y0 y1 y2 y3 y4 y5 y6
      unfold echelonref15_Count.l1
      repeat' first
      | (with_reducible exact ih0 _ _ _ _ _ _)
      | (with_reducible exact ih1 _ _ _ _ _ _ _)
      | (with_reducible exact LeO.refl _)
      | (with_reducible exact LeO.none _)
      | (with_reducible refine LeO.ite ?_ ?_)
      | (with_reducible refine LeO.bind ?_ (fun _ => ?_))
      | exact ih0 _ _ _ _ _ _
      | exact ih1 _ _ _ _ _ _ _
      | exact LeO.none _
      | refine LeO.ite ?_ ?_
      | refine LeO.bind ?_ (fun _ => ?_)
theorem echelonref15_Count.mono : ∀ a0 a1 a2 a3 k, LeO (echelonref15_Count.f k a0 a1 a2 a3) (echelonref15_Count.f (k + 1) a0 a1 a2 a3) := by
  intro a0 a1 a2 a3 k
  obtain ⟨ih0, ih1⟩ := echelonref15_Count.mono_l k
  unfold echelonref15_Count.f
  repeat' first
      | (with_reducible exact ih0 _ _ _ _ _ _)
      | (with_reducible exact ih1 _ _ _ _ _ _ _)
      | (with_reducible exact LeO.refl _)
      | (with_reducible exact LeO.none _)
      | (with_reducible refine LeO.ite ?_ ?_)
      | (with_reducible refine LeO.bind ?_ (fun _ => ?_))
      | exact ih0 _ _ _ _ _ _
      | exact ih1 _ _ _ _ _ _ _
      | exact LeO.none _
      | refine LeO.ite ?_ ?_
      | refine LeO.bind ?_ (fun _ => ?_)
set_option maxHeartbeats 8000000 in
set_option maxRecDepth 100000 in
theorem echelonref15_Count.calls (k : Nat) (a0_0 : Int) (a0_1 : Int) (A0_2 : Option Addr) (c0_2 : Nat) (l0_2 : List (S51)) (a1 : Int) (r : Int) (w : World) (hr0_2 : Kd.C k51 w A0_2 l0_2.length l0_2) (hc0_2 : l0_2.length ≤ c0_2) (h : echelonref15_Count.f k a0_0 a0_1 l0_2 a1 = some r) :
    Calls Try.prog 36 #[.agg #[.int .i64 a0_0, .int .i64 a0_1, .slice A0_2 l0_2.length c0_2], .int .i64 a1] w fun e w' => e = .returned (.int .i64 r) ∧ Below w.heap.size w w' := by
  have hu43 := Try.underlying43
  have HR0_2 := Aside0.mk hr0_2
  have HC0_2 := Aside0.mk hc0_2
  clear hr0_2 hc0_2
  have HB := Aside0.mk (Below.refl w.heap.size w)
  have H : (echelonref15_Count.l0 k a1 0 0 a0_0 a0_1 l0_2) = some r := h
  clear h
  have H' := Aside0.mk H
  clear H
  go_enter Try.func36, Try.ntmps36
  go_wp2_with (first | ((with_reducible refine gate_dst (N := 2) rfl ?_); refine box_event ?hg (N := 2) ?hd (cs := #[.int .i64 a0_0, .int .i64 a0_1, .slice A0_2 l0_2.length c0_2]) (t := 43) ?hr ?_; (case hd => rfl); (case hg => rfl); (case hr => first | (go_simp; done) | (go_simp; rfl)); intro gb218 hg w3 hbox hb; have n0_ := Aside0.mk (below_step (by repeat (first | (with_reducible first | exact HB.out | apply below_alloc | apply pw_below_drewN | apply below_drew1) | exact HB.out)) hb); have n1_ := Aside0.mk (hbox); have n2_ := Aside0.mk ((by rw [hg]; exact (below_size (by repeat (first | (with_reducible first | exact HB.out | apply below_alloc | apply pw_below_drewN | apply below_drew1) | exact HB.out))) : w.heap.size ≤ gb218)); have n3_ := Aside0.mk ((by rw [hg]; exact (below_size (by repeat (first | (with_reducible first | exact HB.out | apply below_alloc | apply pw_below_drewN | apply below_drew1) | exact HB.out))) : w.heap.size ≤ gb218)); clear HB; have HB := n0_; have BK218 := n1_; have GW218 := n2_; have GE218 := n3_; clear n0_ n1_ n2_ n3_; clear hb hbox hg))
  go_loopg [5, 6] k (fun kq v5 v6 w' => ∃ (x5_1 : Int) (x6_1 : Int), v5 = .int .i64 x5_1 ∧ v6 = .int .i64 x6_1 ∧ Aside0 (echelonref15_Count.l0 kq a1 x5_1 x6_1 a0_0 a0_1 l0_2 = some r) ∧ Aside0 (kq ≤ k) ∧ Aside0 (w'.heap[gb218]? = some (.cells #[.int .i64 a0_0, .int .i64 a0_1, (.slice A0_2 l0_2.length c0_2)] 43 (0, 0))) ∧ Aside0 (Below w.heap.size w w'))
  case atStart => exact ⟨(0), (0), (by first | rfl | (simp; done) | (simp [*]; done)), (by first | rfl | (simp; done) | (simp [*]; done)), H', ⟨Nat.le_refl _⟩, ⟨by (with_reducible repeat (first | refine blk_drewN ?_ _ | refine blk_drew ?_ | refine blk_alloc ?_ _)); exact BK218.out⟩, ⟨by repeat (first | (with_reducible first | exact HB.out | apply below_alloc | apply pw_below_drewN | apply below_drew1 | refine below_set ?_ GE218.out) | exact HB.out)⟩⟩
  case round =>
    clear H'
    try clear p2
    try clear c3
    obtain ⟨x5_1, x6_1, rfl, rfl, HA, HK1, BK218, HB⟩ := hrel
    cases gk with
    | zero => exact absurd HA.out (by simp [echelonref15_Count.l0])
    | succ k1 =>
      have H := HA.out
      clear HA
      simp only [echelonref15_Count.l0] at H
      by_cases c4 : x6_1 < (l0_2.length : Int)
      · rw [if_pos c4] at H
        have c4b0 : decide (x6_1 < (l0_2.length : Int)) = true := decide_eq_true c4
        clear c4
        have H' := Aside0.mk H
        clear H
        have hcz5_0 : wr.cell? ⟨gb218, 0, none⟩ = some (.int .i64 a0_0) := (blk_cell BK218.out 0).trans rfl
        have hcz5_1 : wr.cell? ⟨gb218, 1, none⟩ = some (.int .i64 a0_1) := (blk_cell BK218.out 1).trans rfl
        have hcz5_2 : wr.cell? ⟨gb218, 2, none⟩ = some (.slice A0_2 l0_2.length c0_2) := (blk_cell BK218.out 2).trans rfl
        have hfz5_0 := blk_frozen BK218.out 0
        have hfz5_1 := blk_frozen BK218.out 1
        have hfz5_2 := blk_frozen BK218.out 2
        go_wp2
        go_loopg [5, 7] k1 (fun kq v5 v7 w' => ∃ (x5_2 : Int) (x7_2 : Int), v5 = .int .i64 x5_2 ∧ v7 = .int .i64 x7_2 ∧ Aside0 (echelonref15_Count.l1 kq a1 x5_2 x6_1 x7_2 a0_0 a0_1 l0_2 = some r) ∧ Aside0 (kq ≤ k1) ∧ Aside0 (w'.heap[gb218]? = some (.cells #[.int .i64 a0_0, .int .i64 a0_1, (.slice A0_2 l0_2.length c0_2)] 43 (0, 0))) ∧ Aside0 (Below w.heap.size w w'))
        case atStart => exact ⟨(x5_1), (0), (by first | rfl | (simp; done) | (simp [*]; done)), (by first | rfl | (simp; done) | (simp [*]; done)), H', ⟨Nat.le_refl _⟩, ⟨by (with_reducible repeat (first | refine blk_drewN ?_ _ | refine blk_drew ?_ | refine blk_alloc ?_ _)); exact BK218.out⟩, ⟨by repeat (first | (with_reducible first | exact HB.out | apply below_alloc | apply pw_below_drewN | apply below_drew1 | refine below_set ?_ GE218.out) | exact HB.out)⟩⟩
        case round =>
          clear H'
          try clear p2
          try clear c3
          try clear c4
          try clear c4b0
          try clear hcz5_0
          try clear hcz5_1
          try clear hcz5_2
          try clear hfz5_0
          try clear hfz5_1
          try clear hfz5_2
          try clear p2
          obtain ⟨x5_2, x7_2, rfl, rfl, HA, HK2, BK218, HB⟩ := hrel
          cases gk with
          | zero => exact absurd HA.out (by simp [echelonref15_Count.l1])
          | succ k2 =>
            have H := HA.out
            clear HA
            simp only [echelonref15_Count.l1] at H
            by_cases c6 : 0 ≤ x6_1
            · rw [if_pos c6] at H
              have c6b0 : decide (0 ≤ x6_1) = true := decide_eq_true c6
              clear c6
              by_cases c7 : x6_1 < (l0_2.length : Int)
              · rw [if_pos c7] at H
                have c7b0 : decide (x6_1 < (l0_2.length : Int)) = true := decide_eq_true c7
                clear c7
                by_cases c8 : x7_2 < (((rd_T51 l0_2 x6_1).f1).length : Int)
                · rw [if_pos c8] at H
                  have c8b0 : decide (x7_2 < (((rd_T51 l0_2 x6_1).f1).length : Int)) = true := decide_eq_true c8
                  clear c8
                  by_cases c9 : 0 ≤ x7_2
                  · rw [if_pos c9] at H
                    have c9b0 : decide (0 ≤ x7_2) = true := decide_eq_true c9
                    clear c9
                    by_cases c10 : (rd ((rd_T51 l0_2 x6_1).f1) x7_2) = a1
                    · rw [if_pos c10] at H
                      have c10b0 : ((rd ((rd_T51 l0_2 x6_1).f1) x7_2) == a1) = true := beq_iff_eq.mpr c10
                      have c10b1 : ((rd ((rd_T51 l0_2 x6_1).f1) x7_2) != a1) = false := bne_eq_false_iff_eq.mpr c10
                      clear c10
                      have H' := Aside0.mk H
                      clear H
                      have hcz11_0 : wr.cell? ⟨gb218, 0, none⟩ = some (.int .i64 a0_0) := (blk_cell BK218.out 0).trans rfl
                      have hcz11_1 : wr.cell? ⟨gb218, 1, none⟩ = some (.int .i64 a0_1) := (blk_cell BK218.out 1).trans rfl
                      have hcz11_2 : wr.cell? ⟨gb218, 2, none⟩ = some (.slice A0_2 l0_2.length c0_2) := (blk_cell BK218.out 2).trans rfl
                      have hfz11_0 := blk_frozen BK218.out 0
                      have hfz11_1 := blk_frozen BK218.out 1
                      have hfz11_2 := blk_frozen BK218.out 2
                      have p219 : 0 ≤ (x6_1 : Int) := of_decide_eq_true (by first | (with_reducible assumption) | assumption)
                      have q219 : x6_1 < (l0_2.length : Int) := of_decide_eq_true (by first | (with_reducible assumption) | assumption)
                      obtain ⟨ad219, A219_0, c219_0, A219_1, c219_1, e219, hx219_0, hx219_1, hx219_2, hl219_0, hi219_0, hl219_1, hi219_1⟩ := at_T51 HR0_2.out x6_1 p219 q219
                      cases e219
                      replace hx219_0 := (HB.out.cell (World.block_lt_of_cell? w _ hx219_0)).trans hx219_0
                      replace hx219_1 := (HB.out.cell (World.block_lt_of_cell? w _ hx219_1)).trans hx219_1
                      replace hx219_2 := (HB.out.cell (World.block_lt_of_cell? w _ hx219_2)).trans hx219_2
                      have HR219_0 := Aside0.mk hi219_0
                      have HC219_0 := Aside0.mk hl219_0
                      clear hi219_0 hl219_0
                      have HR219_1 := Aside0.mk hi219_1
                      have HC219_1 := Aside0.mk hl219_1
                      clear hi219_1 hl219_1
                      replace p219 := eq_true p219
                      replace q219 := eq_true q219
                      have p220 : 0 ≤ (x6_1 : Int) := of_decide_eq_true (by first | (with_reducible assumption) | assumption)
                      have q220 : x6_1 < (l0_2.length : Int) := of_decide_eq_true (by first | (with_reducible assumption) | assumption)
                      obtain ⟨ad220, A220_0, c220_0, A220_1, c220_1, e220, hx220_0, hx220_1, hx220_2, hl220_0, hi220_0, hl220_1, hi220_1⟩ := at_T51 HR0_2.out x6_1 p220 q220
                      obtain rfl : ad219 = ad220 := (by injection e220)
                      replace hx220_0 := (HB.out.cell (World.block_lt_of_cell? w _ hx220_0)).trans hx220_0
                      replace hx220_1 := (HB.out.cell (World.block_lt_of_cell? w _ hx220_1)).trans hx220_1
                      replace hx220_2 := (HB.out.cell (World.block_lt_of_cell? w _ hx220_2)).trans hx220_2
                      have HR220_0 := Aside0.mk hi220_0
                      have HC220_0 := Aside0.mk hl220_0
                      clear hi220_0 hl220_0
                      have HR220_1 := Aside0.mk hi220_1
                      have HC220_1 := Aside0.mk hl220_1
                      clear hi220_1 hl220_1
                      replace p220 := eq_true p220
                      replace q220 := eq_true q220
                      have ea_ := Option.some.inj (hx219_0.symm.trans hx220_0)
                      injection ea_ with ea_ en_ ec_
                      subst ea_
                      subst ec_
                      clear en_
                      have ea_ := Option.some.inj (hx219_1.symm.trans hx220_1)
                      injection ea_ with ea_ en_ ec_
                      subst ea_
                      subst ec_
                      clear en_
                      have p221 : 0 ≤ (x7_2 : Int) := of_decide_eq_true (by first | (with_reducible assumption) | assumption)
                      have q221 : x7_2 < (((rd_T51 l0_2 x6_1).f1).length : Int) := of_decide_eq_true (by first | (with_reducible assumption) | assumption)
                      obtain ⟨ad221, e221, hx221_0⟩ := Kd.at_int HR220_1.out x7_2 p221 q221
                      cases e221
                      replace hx221_0 := (HB.out.cell (World.block_lt_of_cell? w _ hx221_0)).trans hx221_0
                      replace p221 := eq_true p221
                      replace q221 := eq_true q221
                      go_wp2
                      go_roundg k2
                      case measure => have := HK1.out; have := HK2.out; omega
                      case rel => exact ⟨(wrap64 (x5_2 + 1)), (wrap64 (x7_2 + 1)), (by first | rfl | (simp; done) | (simp [*]; done)), (by first | rfl | (simp; done) | (simp [*]; done)), H', ⟨by have := HK1.out; have := HK2.out; omega⟩, ⟨by (with_reducible repeat (first | refine blk_drewN ?_ _ | refine blk_drew ?_ | refine blk_alloc ?_ _)); exact BK218.out⟩, ⟨by repeat (first | (with_reducible first | exact HB.out | apply below_alloc | apply pw_below_drewN | apply below_drew1 | refine below_set ?_ GE218.out) | exact HB.out)⟩⟩
                    · rw [if_neg c10] at H
                      have c10b0 : ((rd ((rd_T51 l0_2 x6_1).f1) x7_2) == a1) = false := beq_eq_false_iff_ne.mpr c10
                      have c10b1 : ((rd ((rd_T51 l0_2 x6_1).f1) x7_2) != a1) = true := bne_iff_ne.mpr c10
                      have H' := Aside0.mk H
                      clear H
                      have hcz12_0 : wr.cell? ⟨gb218, 0, none⟩ = some (.int .i64 a0_0) := (blk_cell BK218.out 0).trans rfl
                      have hcz12_1 : wr.cell? ⟨gb218, 1, none⟩ = some (.int .i64 a0_1) := (blk_cell BK218.out 1).trans rfl
                      have hcz12_2 : wr.cell? ⟨gb218, 2, none⟩ = some (.slice A0_2 l0_2.length c0_2) := (blk_cell BK218.out 2).trans rfl
                      have hfz12_0 := blk_frozen BK218.out 0
                      have hfz12_1 := blk_frozen BK218.out 1
                      have hfz12_2 := blk_frozen BK218.out 2
                      have p219 : 0 ≤ (x6_1 : Int) := of_decide_eq_true (by first | (with_reducible assumption) | assumption)
                      have q219 : x6_1 < (l0_2.length : Int) := of_decide_eq_true (by first | (with_reducible assumption) | assumption)
                      obtain ⟨ad219, A219_0, c219_0, A219_1, c219_1, e219, hx219_0, hx219_1, hx219_2, hl219_0, hi219_0, hl219_1, hi219_1⟩ := at_T51 HR0_2.out x6_1 p219 q219
                      cases e219
                      replace hx219_0 := (HB.out.cell (World.block_lt_of_cell? w _ hx219_0)).trans hx219_0
                      replace hx219_1 := (HB.out.cell (World.block_lt_of_cell? w _ hx219_1)).trans hx219_1
                      replace hx219_2 := (HB.out.cell (World.block_lt_of_cell? w _ hx219_2)).trans hx219_2
                      have HR219_0 := Aside0.mk hi219_0
                      have HC219_0 := Aside0.mk hl219_0
                      clear hi219_0 hl219_0
                      have HR219_1 := Aside0.mk hi219_1
                      have HC219_1 := Aside0.mk hl219_1
                      clear hi219_1 hl219_1
                      replace p219 := eq_true p219
                      replace q219 := eq_true q219
                      have p220 : 0 ≤ (x6_1 : Int) := of_decide_eq_true (by first | (with_reducible assumption) | assumption)
                      have q220 : x6_1 < (l0_2.length : Int) := of_decide_eq_true (by first | (with_reducible assumption) | assumption)
                      obtain ⟨ad220, A220_0, c220_0, A220_1, c220_1, e220, hx220_0, hx220_1, hx220_2, hl220_0, hi220_0, hl220_1, hi220_1⟩ := at_T51 HR0_2.out x6_1 p220 q220
                      obtain rfl : ad219 = ad220 := (by injection e220)
                      replace hx220_0 := (HB.out.cell (World.block_lt_of_cell? w _ hx220_0)).trans hx220_0
                      replace hx220_1 := (HB.out.cell (World.block_lt_of_cell? w _ hx220_1)).trans hx220_1
                      replace hx220_2 := (HB.out.cell (World.block_lt_of_cell? w _ hx220_2)).trans hx220_2
                      have HR220_0 := Aside0.mk hi220_0
                      have HC220_0 := Aside0.mk hl220_0
                      clear hi220_0 hl220_0
                      have HR220_1 := Aside0.mk hi220_1
                      have HC220_1 := Aside0.mk hl220_1
                      clear hi220_1 hl220_1
                      replace p220 := eq_true p220
                      replace q220 := eq_true q220
                      have ea_ := Option.some.inj (hx219_0.symm.trans hx220_0)
                      injection ea_ with ea_ en_ ec_
                      subst ea_
                      subst ec_
                      clear en_
                      have ea_ := Option.some.inj (hx219_1.symm.trans hx220_1)
                      injection ea_ with ea_ en_ ec_
                      subst ea_
                      subst ec_
                      clear en_
                      have p221 : 0 ≤ (x7_2 : Int) := of_decide_eq_true (by first | (with_reducible assumption) | assumption)
                      have q221 : x7_2 < (((rd_T51 l0_2 x6_1).f1).length : Int) := of_decide_eq_true (by first | (with_reducible assumption) | assumption)
                      obtain ⟨ad221, e221, hx221_0⟩ := Kd.at_int HR220_1.out x7_2 p221 q221
                      cases e221
                      replace hx221_0 := (HB.out.cell (World.block_lt_of_cell? w _ hx221_0)).trans hx221_0
                      replace p221 := eq_true p221
                      replace q221 := eq_true q221
                      go_wp2
                      go_roundg k2
                      case measure => have := HK1.out; have := HK2.out; omega
                      case rel => exact ⟨(x5_2), (wrap64 (x7_2 + 1)), (by first | rfl | (simp; done) | (simp [*]; done)), (by first | rfl | (simp; done) | (simp [*]; done)), H', ⟨by have := HK1.out; have := HK2.out; omega⟩, ⟨by (with_reducible repeat (first | refine blk_drewN ?_ _ | refine blk_drew ?_ | refine blk_alloc ?_ _)); exact BK218.out⟩, ⟨by repeat (first | (with_reducible first | exact HB.out | apply below_alloc | apply pw_below_drewN | apply below_drew1 | refine below_set ?_ GE218.out) | exact HB.out)⟩⟩
                  · rw [if_neg c9] at H
                    exact absurd H (by simp)
                · rw [if_neg c8] at H
                  have c8b0 : decide (x7_2 < (((rd_T51 l0_2 x6_1).f1).length : Int)) = false := decide_eq_false c8
                  clear c8
                  have H' := Aside0.mk H
                  clear H
                  have hcz13_0 : wr.cell? ⟨gb218, 0, none⟩ = some (.int .i64 a0_0) := (blk_cell BK218.out 0).trans rfl
                  have hcz13_1 : wr.cell? ⟨gb218, 1, none⟩ = some (.int .i64 a0_1) := (blk_cell BK218.out 1).trans rfl
                  have hcz13_2 : wr.cell? ⟨gb218, 2, none⟩ = some (.slice A0_2 l0_2.length c0_2) := (blk_cell BK218.out 2).trans rfl
                  have hfz13_0 := blk_frozen BK218.out 0
                  have hfz13_1 := blk_frozen BK218.out 1
                  have hfz13_2 := blk_frozen BK218.out 2
                  have p219 : 0 ≤ (x6_1 : Int) := of_decide_eq_true (by first | (with_reducible assumption) | assumption)
                  have q219 : x6_1 < (l0_2.length : Int) := of_decide_eq_true (by first | (with_reducible assumption) | assumption)
                  obtain ⟨ad219, A219_0, c219_0, A219_1, c219_1, e219, hx219_0, hx219_1, hx219_2, hl219_0, hi219_0, hl219_1, hi219_1⟩ := at_T51 HR0_2.out x6_1 p219 q219
                  cases e219
                  replace hx219_0 := (HB.out.cell (World.block_lt_of_cell? w _ hx219_0)).trans hx219_0
                  replace hx219_1 := (HB.out.cell (World.block_lt_of_cell? w _ hx219_1)).trans hx219_1
                  replace hx219_2 := (HB.out.cell (World.block_lt_of_cell? w _ hx219_2)).trans hx219_2
                  have HR219_0 := Aside0.mk hi219_0
                  have HC219_0 := Aside0.mk hl219_0
                  clear hi219_0 hl219_0
                  have HR219_1 := Aside0.mk hi219_1
                  have HC219_1 := Aside0.mk hl219_1
                  clear hi219_1 hl219_1
                  replace p219 := eq_true p219
                  replace q219 := eq_true q219
                  go_wp2
                  go_roundg k2
                  case measure => have := HK1.out; have := HK2.out; omega
                  case rel => exact ⟨(x5_2), (wrap64 (x6_1 + 1)), (by first | rfl | (simp; done) | (simp [*]; done)), (by first | rfl | (simp; done) | (simp [*]; done)), H', ⟨by have := HK1.out; have := HK2.out; omega⟩, ⟨by (with_reducible repeat (first | refine blk_drewN ?_ _ | refine blk_drew ?_ | refine blk_alloc ?_ _)); exact BK218.out⟩, ⟨by repeat (first | (with_reducible first | exact HB.out | apply below_alloc | apply pw_below_drewN | apply below_drew1 | refine below_set ?_ GE218.out) | exact HB.out)⟩⟩
              · rw [if_neg c7] at H
                exact absurd H (by simp)
            · rw [if_neg c6] at H
              exact absurd H (by simp)
      · rw [if_neg c4] at H
        have c4b0 : decide (x6_1 < (l0_2.length : Int)) = false := decide_eq_false c4
        clear c4
        obtain rfl := Option.some.inj H
        have hcz14_0 : wr.cell? ⟨gb218, 0, none⟩ = some (.int .i64 a0_0) := (blk_cell BK218.out 0).trans rfl
        have hcz14_1 : wr.cell? ⟨gb218, 1, none⟩ = some (.int .i64 a0_1) := (blk_cell BK218.out 1).trans rfl
        have hcz14_2 : wr.cell? ⟨gb218, 2, none⟩ = some (.slice A0_2 l0_2.length c0_2) := (blk_cell BK218.out 2).trans rfl
        have hfz14_0 := blk_frozen BK218.out 0
        have hfz14_1 := blk_frozen BK218.out 1
        have hfz14_2 := blk_frozen BK218.out 2
        go_wp2
        go_ret
        exact ⟨by first | rfl | (simp [errW_none, errW_some] <;> rfl) | (simp [*, errW_none, errW_some] <;> rfl), by repeat (first | (with_reducible first | exact HB.out | apply below_alloc | apply pw_below_drewN | apply below_drew1 | refine below_set ?_ GE218.out) | exact HB.out)⟩
end Go.Proofs.Ytkeadpichlgagaa.Pl
