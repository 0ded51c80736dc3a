/- MembersMeet, walked. -/
import Derived.Test.YtkeadpichlgagaaMeK
namespace Go.Proofs.Ytkeadpichlgagaa.Me
open Go.RowKit Go.Lib Go.Sort Go.Shelf Go.Proofs.YtkeadpichlgagaaW.PrintWords Go.Proofs.YtkeadpichlgagaaW.PrintLast Go.Proofs.YtkeadpichlgagaaW.PrintMore
open Go.Proofs.Ytkeadpichlgagaa.PMembersNext Go.Proofs.Ytkeadpichlgagaa.Mp
set_option linter.unusedVariables false
set_option linter.unusedSimpArgs false
set_option linter.unnecessarySimpa false

/-! ### Plain: two majorities -/
def comB (a b V : List Int) : Bool := a.any fun q => decide (q ∈ b) && decide (q ∈ V)
theorem comB_of {a b V : List Int} {q : Int} (h1 : q ∈ V) (h2 : q ∈ a) (h3 : q ∈ b) : comB a b V = true := List.any_eq_true.2 ⟨q, h2, by simp [h1, h3]⟩
theorem cnt_two (a b : List Int) : ∀ V : List Int, cntIn V a + cntIn V b ≤ V.length + (V.filter fun q => decide (q ∈ a) && decide (q ∈ b)).length
  | [] => by simp [cntIn]
  | q :: V => by
    have ih := cnt_two a b V
    unfold cntIn at *
    by_cases ha : q ∈ a <;> by_cases hb : q ∈ b <;> simp [List.filter_cons, ha, hb] <;> omega
theorem meet {V a b : List Int} (h1 : V.length < 2 * cntIn V a) (h2 : V.length ≤ 2 * cntIn V b) : comB a b V = true := by
  have h := cnt_two a b V
  have hp : 0 < (V.filter fun q => decide (q ∈ a) && decide (q ∈ b)).length := by omega
  obtain ⟨q, hq⟩ := List.exists_mem_of_length_pos hp
  obtain ⟨h3, h4⟩ := List.mem_filter.1 hq
  simp at h4
  exact comB_of h3 h4.1 h4.2
theorem cnt_put (c : Int) (b : List Int) : ∀ V : List Int, cntIn (putF c V) b ≤ cntIn V b + 1
  | [] => by unfold putF cntIn; exact List.length_filter_le _ _
  | q :: V => by
    have ih := cnt_put c b V
    unfold putF
    split
    · unfold cntIn
      by_cases hc : c ∈ b <;> simp [List.filter_cons, hc]
    · have e1 : ∀ V : List Int, cntIn (q :: V) b = cntIn V b + (if q ∈ b then 1 else 0) := fun V => by
        unfold cntIn
        by_cases hq : q ∈ b <;> simp [List.filter_cons, hq]
      rw [e1, e1]
      omega
theorem cnt_drop (c : Int) (b : List Int) : ∀ V : List Int, cntIn (dropF V c) b ≤ cntIn V b := fun V => by
  unfold cntIn dropF
  rw [List.filter_filter]
  have : ∀ V : List Int, (V.filter fun a => decide (a ∈ b) && !a == c).length ≤ (V.filter fun a => decide (a ∈ b)).length := by
    intro V
    induction V with
    | nil => simp
    | cons q V ih =>
      by_cases hq : q ∈ b <;> by_cases hc : q = c
      · subst hc; simp [List.filter_cons, hq]; omega
      · simp [List.filter_cons, hq, hc]; omega
      · subst hc; simp [List.filter_cons, hq]; omega
      · simp [List.filter_cons, hq, hc]; omega
  exact this V
theorem drop_one {c : Int} : ∀ {V : List Int}, V.Pairwise (· < ·) → V.length ≤ (dropF V c).length + 1
  | [], _ => by simp
  | q :: V, h => by
    have h' := List.pairwise_cons.1 h
    by_cases hq : q = c
    · subst hq
      have : dropF V q = V := dropF_self (fun hm => by have := h'.1 q hm; omega)
      unfold dropF at *
      simp [List.filter_cons, this]
    · have ih := drop_one h'.2 (c := c)
      unfold dropF at *
      simp [List.filter_cons, hq]
      omega
theorem meet_next {x : S67} {d id : Int} {a b : List Int} (hx : Rt x) (he : nextE x d id = 0) (h1 : majB x.f0 a = true) (h2 : majB (nextC x d id).f0 b = true) : comB a b x.f0 = true := by
  have h1 := of_decide_eq_true h1
  have h2 := of_decide_eq_true h2
  refine meet h1 ?_
  have hc : nextC x d id = if d = 1 then ⟨x.f0, putF id x.f1⟩ else if d = 2 then ⟨putF id x.f0, dropF x.f1 id⟩ else ⟨dropF x.f0 id, dropF x.f1 id⟩ := by
    unfold nextC; rw [he, if_neg (by decide)]
  rw [hc] at h2
  by_cases e1 : d = 1
  · rw [if_pos e1] at h2
    exact Nat.le_of_lt h2
  · rw [if_neg e1] at h2
    by_cases e2 : d = 2
    · rw [if_pos e2] at h2
      have h3 : (putF id x.f0).length < 2 * cntIn (putF id x.f0) b := h2
      have h4 := cnt_put id b x.f0
      rw [putF_len] at h3
      omega
    · rw [if_neg e2] at h2
      have h3 : (dropF x.f0 id).length < 2 * cntIn (dropF x.f0 id) b := h2
      have h4 := cnt_drop id b x.f0
      have h5 := drop_one hx.r0.up (c := id)
      omega
theorem maj_calls (A0 A1 : Option Addr) (c0 c1 : Nat) (x : S67) (Ai : Option Addr) (ci : Nat) (ids : List Int) (w : World) (hx : CfR w x A0 c0 A1 c1) (hi : (Kd.int .i64).C w Ai ids.length ids) (hci : ids.length ≤ ci) (h0 : x.f0.length ≤ 1000000) (h1 : ids.length ≤ 1000000) :
    Calls Try.prog 53 #[.agg #[.slice A0 x.f0.length c0, .slice A1 x.f1.length c1], .slice Ai ids.length ci] w fun e w' => e = .returned (.bool (majB x.f0 ids)) ∧ Below w.heap.size w w' := by
  obtain ⟨k, hk⟩ := (majority_ev x.f0 x.f1 ids h0 (by omega)).rounds
  exact members_Majority.calls k A0 c0 x.f0 A1 c1 x.f1 Ai ci ids _ w hx.g0 hx.l0 hx.g1 hx.l1 hi hci hk
theorem com_take (a b V : List Int) (i : Nat) (h : i < a.length) : comB (a.take (i + 1)) b V = (comB (a.take i) b V || (decide (a[i] ∈ b) && decide (a[i] ∈ V))) := by
  unfold comB
  rw [List.take_succ_eq_append_getElem h, List.any_append]
  simp
set_option maxHeartbeats 4000000 in
set_option maxRecDepth 100000 in
theorem meet_law (A0 A1 : Option Addr) (c0 c1 : Nat) (x : S67) (d id : Int) (Aa Ab : Option Addr) (ca cb : Nat) (la lb : List Int) (w : World) (hx : CfR w x A0 c0 A1 c1)
    (ha : (Kd.int .i64).C w Aa la.length la) (hca : la.length ≤ ca) (hb : (Kd.int .i64).C w Ab lb.length lb) (hcb : lb.length ≤ cb) :
    Calls Try.prog 13 #[.agg #[.slice A0 x.f0.length c0, .slice A1 x.f1.length c1], .agg #[.int .i64 d, .int .i64 id], .agg #[.slice Aa la.length ca, .slice Ab lb.length cb]] w fun e w' => e = .returned (.bool true) ∧ Below w.heap.size w w' := by
  have hu67 := Try.underlying67
  have hu84 := Try.underlying84
  have hu86 := Try.underlying86
  have HX := Aside0.mk hx
  have HA := Aside0.mk ha
  have HLB := Aside0.mk hb
  have HCA := Aside0.mk hca
  have HCB := Aside0.mk hcb
  have hm1 := ha.2.1
  have hm2 := hb.2.1
  clear hx ha hb hca hcb
  go_enter Try.func13, Try.ntmps13
  go_upto_region 1 with fail
  have HB : Aside0 (Below w.heap.size w (((w.alloc (Obj.cells #[Value.slice A0 x.f0.length c0, Value.slice A1 x.f1.length c1] 67)).alloc (Obj.cells #[Value.int IntKind.i64 d, Value.int IntKind.i64 id] 84)).alloc (Obj.cells #[Value.slice Aa la.length ca, Value.slice Ab lb.length cb] 86))) := ⟨(((Below.refl _ w).alloc (Nat.le_refl _) _).alloc (by simp) _).alloc (by simp; omega) _⟩
  have K3 := Aside0.mk (blk_alloc (blk_alloc (grown_new (w := w) #[Value.slice A0 x.f0.length c0, Value.slice A1 x.f1.length c1] 67) (Obj.cells #[Value.int IntKind.i64 d, Value.int IntKind.i64 id] 84)) (Obj.cells #[Value.slice Aa la.length ca, Value.slice Ab lb.length cb] 86))
  have K4 := Aside0.mk (blk_alloc (grown_new (w := w.alloc (Obj.cells #[Value.slice A0 x.f0.length c0, Value.slice A1 x.f1.length c1] 67)) #[Value.int IntKind.i64 d, Value.int IntKind.i64 id] 84) (Obj.cells #[Value.slice Aa la.length ca, Value.slice Ab lb.length cb] 86))
  have K5 := Aside0.mk (grown_new (w := (w.alloc (Obj.cells #[Value.slice A0 x.f0.length c0, Value.slice A1 x.f1.length c1] 67)).alloc (Obj.cells #[Value.int IntKind.i64 d, Value.int IntKind.i64 id] 84)) #[Value.slice Aa la.length ca, Value.slice Ab lb.length cb] 86)
  simp only [World.size_alloc] at K4 K5
  generalize ((w.alloc (Obj.cells #[Value.slice A0 x.f0.length c0, Value.slice A1 x.f1.length c1] 67)).alloc (Obj.cells #[Value.int IntKind.i64 d, Value.int IntKind.i64 id] 84)).alloc (Obj.cells #[Value.slice Aa la.length ca, Value.slice Ab lb.length cb] 86) = w1 at HB K3 K4 K5 ⊢
  obtain ⟨b3, hb3⟩ : ∃ b, w.heap.size = b := ⟨_, rfl⟩
  obtain ⟨b4, hb4⟩ : ∃ b, w.heap.size + 1 = b := ⟨_, rfl⟩
  obtain ⟨b5, hb5⟩ : ∃ b, w.heap.size + 1 + 1 = b := ⟨_, rfl⟩
  rw [hb5] at K5 ⊢
  rw [hb4] at K4 ⊢
  rw [hb3] at K3 ⊢
  clear hb3 hb4 hb5
  have K5c0 := (blk_cell K5.out 0).trans (show _ = some (.slice Aa la.length ca) from rfl)
  have K5c1 := (blk_cell K5.out 1).trans (show _ = some (.slice Ab lb.length cb) from rfl)
  go_quiet (fail)
  generalize hdr : w1.drewN _ = w2
  have hb : Below w1.heap.size w1 w2 := by rw [← hdr]; exact pw_below_drewN (Below.refl _ _) _
  clear hdr
  clear K5c0 K5c1
  replace K3 := Aside0.mk (blk_below K3.out hb)
  replace K4 := Aside0.mk (blk_below K4.out hb)
  replace K5 := Aside0.mk (blk_below K5.out hb)
  replace HB := Aside0.mk (HB.out.trans (hb.mono HB.out.size))
  clear hb
  go_wp2_with fail
  refine (awake_calls _).mono ?_
  rintro e w3 ⟨rfl, hb⟩
  replace K3 := Aside0.mk (blk_below K3.out hb)
  replace K4 := Aside0.mk (blk_below K4.out hb)
  replace K5 := Aside0.mk (blk_below K5.out hb)
  replace HB := Aside0.mk (HB.out.trans (hb.mono HB.out.size))
  clear hb
  have K3c0 := (blk_cell K3.out 0).trans (show _ = some (.slice A0 x.f0.length c0) from rfl)
  have K3c1 := (blk_cell K3.out 1).trans (show _ = some (.slice A1 x.f1.length c1) from rfl)
  go_wp2_with fail
  refine (small_calls A0 A1 c0 c1 x w3 (HX.out.below HB.out)).mono ?_
  rintro e w4 ⟨rfl, hb⟩
  clear K3c0 K3c1
  replace K3 := Aside0.mk (blk_below K3.out hb)
  replace K4 := Aside0.mk (blk_below K4.out hb)
  replace K5 := Aside0.mk (blk_below K5.out hb)
  replace HB := Aside0.mk (HB.out.trans (hb.mono HB.out.size))
  clear hb
  cases hsm : smB x with
  | false =>
    clear hsm
    go_wp2_with fail
    refine (awake_calls _).mono ?_
    rintro e w9 ⟨rfl, hb⟩
    replace K3 := Aside0.mk (blk_below K3.out hb)
    replace K4 := Aside0.mk (blk_below K4.out hb)
    replace K5 := Aside0.mk (blk_below K5.out hb)
    replace HB := Aside0.mk (HB.out.trans (hb.mono HB.out.size))
    clear hb
    go_wp2_with fail
    go_ret
    exact ⟨rfl, HB.out⟩
  | true =>
    obtain ⟨hs0, hs1⟩ := of_decide_eq_true hsm
    clear hsm
    by_cases h60 : (60 : Int) < la.length
    ·
      have hd : decide ((60 : Int) < la.length) = true := decide_eq_true h60
      go_wp2_with fail
      refine (awake_calls _).mono ?_
      rintro e w9 ⟨rfl, hb⟩
      replace K3 := Aside0.mk (blk_below K3.out hb)
      replace K4 := Aside0.mk (blk_below K4.out hb)
      replace K5 := Aside0.mk (blk_below K5.out hb)
      replace HB := Aside0.mk (HB.out.trans (hb.mono HB.out.size))
      clear hb
      go_wp2_with fail
      go_ret
      exact ⟨rfl, HB.out⟩
    ·
      have hd : decide ((60 : Int) < la.length) = false := decide_eq_false h60
      by_cases h61 : (60 : Int) < lb.length
      ·
        have hd2 : decide ((60 : Int) < lb.length) = true := decide_eq_true h61
        go_wp2_with fail
        refine (awake_calls _).mono ?_
        rintro e w9 ⟨rfl, hb⟩
        replace K3 := Aside0.mk (blk_below K3.out hb)
        replace K4 := Aside0.mk (blk_below K4.out hb)
        replace K5 := Aside0.mk (blk_below K5.out hb)
        replace HB := Aside0.mk (HB.out.trans (hb.mono HB.out.size))
        clear hb
        go_wp2_with fail
        go_ret
        exact ⟨rfl, HB.out⟩
      ·
        have hd2 : decide ((60 : Int) < lb.length) = false := decide_eq_false h61
        have K3c0 := (blk_cell K3.out 0).trans (show _ = some (.slice A0 x.f0.length c0) from rfl)
        have K3c1 := (blk_cell K3.out 1).trans (show _ = some (.slice A1 x.f1.length c1) from rfl)
        have K4c0 := (blk_cell K4.out 0).trans (show _ = some (.int .i64 d) from rfl)
        have K4c1 := (blk_cell K4.out 1).trans (show _ = some (.int .i64 id) from rfl)
        go_wp2_with fail
        have KB : Aside0 ((w4.alloc (Obj.cells #[.int .i64 d, .int .i64 id] 84)).heap[w4.heap.size]? = some (.cells #[.int .i64 d, .int .i64 id] 84 (0, 0))) := ⟨grown_new _ _⟩
        have HBA : Below w4.heap.size w4 (w4.alloc (Obj.cells #[.int .i64 d, .int .i64 id] 84)) := (Below.refl _ w4).alloc (Nat.le_refl _) _
        clear K3c0 K3c1 K4c0 K4c1
        replace K3 := Aside0.mk (blk_below K3.out HBA)
        replace K4 := Aside0.mk (blk_below K4.out HBA)
        replace K5 := Aside0.mk (blk_below K5.out HBA)
        replace HB := Aside0.mk (HB.out.trans (HBA.mono HB.out.size))
        clear HBA
        refine (Next_calls A0 A1 c0 c1 x (some ⟨w4.heap.size, 0, none⟩) 1 [⟨d, id⟩] (w4.alloc (Obj.cells #[.int .i64 d, .int .i64 id] 84)) (HX.out.below HB.out) (C_ch [⟨d, id⟩] _ KB.out (fun j p hj => by
          rcases j with _ | j
          · simp at hj; subst hj; exact ⟨rfl, rfl⟩
          · simp at hj) (by simp)) (by omega) (by omega)).mono ?_
        rintro e w5 ⟨v, rfl, ⟨G0, k0, G1, k1, rfl, hgot⟩, hb⟩
        have HGOT := Aside0.mk hgot
        clear KB
        replace K3 := Aside0.mk (blk_below K3.out hb)
        replace K4 := Aside0.mk (blk_below K4.out hb)
        replace K5 := Aside0.mk (blk_below K5.out hb)
        replace HB := Aside0.mk (HB.out.trans (hb.mono HB.out.size))
        clear hb
        clear hgot
        generalize hres : nxF x [⟨d, id⟩] = res at *
        have HRES := Aside0.mk hres
        clear hres
        go_upto_region 6 with fail
        obtain ⟨b9, hb9⟩ : ∃ b, w5.heap.size = b := ⟨_, rfl⟩
        have HBr : Below w5.heap.size w5 (w5.alloc (Obj.cells #[.slice G0 res.1.f0.length k0, .slice G1 res.1.f1.length k1] 67)) := (Below.refl _ w5).alloc (Nat.le_refl _) _
        have K9 := Aside0.mk (grown_new (w := w5) #[.slice G0 res.1.f0.length k0, .slice G1 res.1.f1.length k1] 67)
        rw [hb9] at K9 ⊢
        clear hb9
        replace K3 := Aside0.mk (blk_below K3.out HBr)
        replace K4 := Aside0.mk (blk_below K4.out HBr)
        replace K5 := Aside0.mk (blk_below K5.out HBr)
        replace HGOT := Aside0.mk (HGOT.out.below HBr)
        replace HB := Aside0.mk (HB.out.trans (HBr.mono HB.out.size))
        clear HBr
        generalize w5.alloc (Obj.cells #[.slice G0 res.1.f0.length k0, .slice G1 res.1.f1.length k1] 67) = w6 at *
        go_wp2_with fail
        go_loopg [11, 12] la.length (fun kq v11 v12 wr => ∃ i : Nat, v11 = .bool (comB (la.take i) lb x.f0) ∧ v12 = .int .i64 i ∧ i + kq = la.length ∧ Aside0 (wr.heap[b3]? = some (.cells #[.slice A0 x.f0.length c0, .slice A1 x.f1.length c1] 67 (0, 0))) ∧ Aside0 (wr.heap[b9]? = some (.cells #[.slice G0 res.1.f0.length k0, .slice G1 res.1.f1.length k1] 67 (0, 0))) ∧ Aside0 (CfR wr res.1 G0 k0 G1 k1) ∧ Aside0 (Below w.heap.size w wr))
        case atStart => exact ⟨0, by simp [comB], rfl, by omega, K3, K9, HGOT, HB⟩
        case round =>
          clear K3 K9 HGOT HB K4 K5
          obtain ⟨i, rfl, rfl, hi, K3, K9, HGOT, HB⟩ := hrel
          by_cases hlt : i < la.length
          ·
            have hlt' : (i : Int) < (la.length : Int) := by omega
            have HCT := Aside0.mk (com_take la lb x.f0 i hlt)
            obtain ⟨ad, ea⟩ : ∃ ad, Aa = some ad := by
              obtain ⟨ad, h, _⟩ := HA.out.2.2 (by omega)
              exact ⟨ad, h⟩
            subst ea
            have HQ : Aside0 (∀ W, Below w.heap.size w W → W.cell? (ad.add i) = some (.int .i64 la[i])) := ⟨fun W hW => by
              have h := C_cells (Kd.C_below HA.out hW) rfl i hlt
              rw [h]
              simp [hlt]⟩
            generalize la[i] = qq at HCT HQ
            have HC : ∀ w1, Below wr.heap.size wr w1 → w1.cell? ⟨b3, 0, none⟩ = some (.slice A0 x.f0.length c0) ∧ w1.cell? ⟨b3, 1, none⟩ = some (.slice A1 x.f1.length c1) ∧ w1.cell? (ad.add i) = some (.int .i64 qq) := fun w1 hW => ⟨(blk_cell (blk_below K3.out hW) 0).trans rfl, (blk_cell (blk_below K3.out hW) 1).trans rfl, HQ.out w1 (HB.out.trans (hW.mono HB.out.size))⟩
            generalize comB (la.take i) lb x.f0 = vb at HCT ⊢
            go_upto_region 9 with fail
            have HD : Aside0 (Below wr.heap.size wr wr.drew) := ⟨(Below.refl _ _).drew⟩
            replace HC := Aside0.mk HC
            cases vb with
            | true =>
              refine start_ (n := 19) (S := fun w' => w'.cell? ⟨b3, 0, none⟩ = some (.slice A0 x.f0.length c0) ∧ w'.cell? ⟨b3, 1, none⟩ = some (.slice A1 x.f1.length c1) ∧ w'.cell? (ad.add i) = some (.int .i64 qq)) (ds := []) #[false, false, false, false, false, false, false, false, false, false, false, false, false, false, false, false, false, false, false] (by kernel_rfl) rfl rfl (HC.out _ HD.out) (fun hHeld => ?_)
              refine pure_ (i := 0) (N := some 48) (v := ?_) (a' := ?_) #[true, false, false, false, false, false, false, false, false, false, false, false, false, false, false, false, false, false, false] rfl rfl (by kernel_rfl) (fun _ _ _ h => h) (Or.inl ⟨by rfl, ?_⟩) ?_ ?_
              rotate_left
              · intro w'
                go_simp
                with_reducible rfl
              rotate_left
              · simp only [Act.put, List.setIfInBounds_toArray, List.set_cons_zero, List.set_cons_succ, i64_w, i32_w]
                rfl
              refine pure_ (i := 1) (N := some 49) (v := ?_) (a' := ?_) #[true, true, false, false, false, false, false, false, false, false, false, false, false, false, false, false, false, false, false] rfl rfl (by kernel_rfl) (fun _ _ _ h => h) (Or.inl ⟨by rfl, ?_⟩) ?_ ?_
              rotate_left
              · intro w'
                go_simp
                with_reducible rfl
              rotate_left
              · simp only [Act.put, List.setIfInBounds_toArray, List.set_cons_zero, List.set_cons_succ, i64_w, i32_w]
                rfl
              refine pure_ (i := 2) (N := some 50) (v := undef) (a' := ?_) #[true, true, true, false, false, false, false, false, false, false, false, false, false, false, false, false, false, false, false] rfl rfl (by kernel_rfl) (fun _ _ _ h => h) (Or.inr ⟨by rfl, rfl⟩) ?_ ?_
              rotate_left
              · simp only [Act.put, List.setIfInBounds_toArray, List.set_cons_zero, List.set_cons_succ, i64_w, i32_w]
                rfl
              refine pure_ (i := 3) (N := some 51) (v := undef) (a' := ?_) #[true, true, true, true, false, false, false, false, false, false, false, false, false, false, false, false, false, false, false] rfl rfl (by kernel_rfl) (fun _ _ _ h => h) (Or.inr ⟨by rfl, rfl⟩) ?_ ?_
              rotate_left
              · simp only [Act.put, List.setIfInBounds_toArray, List.set_cons_zero, List.set_cons_succ, i64_w, i32_w]
                rfl
              refine pure_ (i := 4) (N := some 52) (v := undef) (a' := ?_) #[true, true, true, true, true, false, false, false, false, false, false, false, false, false, false, false, false, false, false] rfl rfl (by kernel_rfl) (fun _ _ _ h => h) (Or.inr ⟨by rfl, rfl⟩) ?_ ?_
              rotate_left
              · simp only [Act.put, List.setIfInBounds_toArray, List.set_cons_zero, List.set_cons_succ, i64_w, i32_w]
                rfl
              refine pure_ (i := 5) (N := some 53) (v := undef) (a' := ?_) #[true, true, true, true, true, true, false, false, false, false, false, false, false, false, false, false, false, false, false] rfl rfl (by kernel_rfl) (fun _ _ _ h => h) (Or.inr ⟨by rfl, rfl⟩) ?_ ?_
              rotate_left
              · simp only [Act.put, List.setIfInBounds_toArray, List.set_cons_zero, List.set_cons_succ, i64_w, i32_w]
                rfl
              refine pure_ (i := 6) (N := some 54) (v := undef) (a' := ?_) #[true, true, true, true, true, true, true, false, false, false, false, false, false, false, false, false, false, false, false] rfl rfl (by kernel_rfl) (fun _ _ _ h => h) (Or.inr ⟨by rfl, rfl⟩) ?_ ?_
              rotate_left
              · simp only [Act.put, List.setIfInBounds_toArray, List.set_cons_zero, List.set_cons_succ, i64_w, i32_w]
                rfl
              refine pure_ (i := 7) (N := some 55) (v := undef) (a' := ?_) #[true, true, true, true, true, true, true, true, false, false, false, false, false, false, false, false, false, false, false] rfl rfl (by kernel_rfl) (fun _ _ _ h => h) (Or.inr ⟨by rfl, rfl⟩) ?_ ?_
              rotate_left
              · simp only [Act.put, List.setIfInBounds_toArray, List.set_cons_zero, List.set_cons_succ, i64_w, i32_w]
                rfl
              refine pure_ (i := 8) (N := some 56) (v := undef) (a' := ?_) #[true, true, true, true, true, true, true, true, true, false, false, false, false, false, false, false, false, false, false] rfl rfl (by kernel_rfl) (fun _ _ _ h => h) (Or.inr ⟨by rfl, rfl⟩) ?_ ?_
              rotate_left
              · simp only [Act.put, List.setIfInBounds_toArray, List.set_cons_zero, List.set_cons_succ, i64_w, i32_w]
                rfl
              refine pure_ (i := 9) (N := some 57) (v := undef) (a' := ?_) #[true, true, true, true, true, true, true, true, true, true, false, false, false, false, false, false, false, false, false] rfl rfl (by kernel_rfl) (fun _ _ _ h => h) (Or.inr ⟨by rfl, rfl⟩) ?_ ?_
              rotate_left
              · simp only [Act.put, List.setIfInBounds_toArray, List.set_cons_zero, List.set_cons_succ, i64_w, i32_w]
                rfl
              refine pure_ (i := 10) (N := some 58) (v := undef) (a' := ?_) #[true, true, true, true, true, true, true, true, true, true, true, false, false, false, false, false, false, false, false] rfl rfl (by kernel_rfl) (fun _ _ _ h => h) (Or.inr ⟨by rfl, rfl⟩) ?_ ?_
              rotate_left
              · simp only [Act.put, List.setIfInBounds_toArray, List.set_cons_zero, List.set_cons_succ, i64_w, i32_w]
                rfl
              refine pure_ (i := 11) (N := some 59) (v := undef) (a' := ?_) #[true, true, true, true, true, true, true, true, true, true, true, true, false, false, false, false, false, false, false] rfl rfl (by kernel_rfl) (fun _ _ _ h => h) (Or.inr ⟨by rfl, rfl⟩) ?_ ?_
              rotate_left
              · simp only [Act.put, List.setIfInBounds_toArray, List.set_cons_zero, List.set_cons_succ, i64_w, i32_w]
                rfl
              refine pure_ (i := 12) (N := some 60) (v := undef) (a' := ?_) #[true, true, true, true, true, true, true, true, true, true, true, true, true, false, false, false, false, false, false] rfl rfl (by kernel_rfl) (fun _ _ _ h => h) (Or.inr ⟨by rfl, rfl⟩) ?_ ?_
              rotate_left
              · simp only [Act.put, List.setIfInBounds_toArray, List.set_cons_zero, List.set_cons_succ, i64_w, i32_w]
                rfl
              refine pure_ (i := 13) (N := some 61) (v := undef) (a' := ?_) #[true, true, true, true, true, true, true, true, true, true, true, true, true, true, false, false, false, false, false] rfl rfl (by kernel_rfl) (fun _ _ _ h => h) (Or.inr ⟨by rfl, rfl⟩) ?_ ?_
              rotate_left
              · simp only [Act.put, List.setIfInBounds_toArray, List.set_cons_zero, List.set_cons_succ, i64_w, i32_w]
                rfl
              refine pure_ (i := 14) (N := some 62) (v := undef) (a' := ?_) #[true, true, true, true, true, true, true, true, true, true, true, true, true, true, true, false, false, false, false] rfl rfl (by kernel_rfl) (fun _ _ _ h => h) (Or.inr ⟨by rfl, rfl⟩) ?_ ?_
              rotate_left
              · simp only [Act.put, List.setIfInBounds_toArray, List.set_cons_zero, List.set_cons_succ, i64_w, i32_w]
                rfl
              refine pure_ (i := 15) (N := some 63) (v := undef) (a' := ?_) #[true, true, true, true, true, true, true, true, true, true, true, true, true, true, true, true, false, false, false] rfl rfl (by kernel_rfl) (fun _ _ _ h => h) (Or.inr ⟨by rfl, rfl⟩) ?_ ?_
              rotate_left
              · simp only [Act.put, List.setIfInBounds_toArray, List.set_cons_zero, List.set_cons_succ, i64_w, i32_w]
                rfl
              refine pure_ (i := 16) (N := some 64) (v := undef) (a' := ?_) #[true, true, true, true, true, true, true, true, true, true, true, true, true, true, true, true, true, false, false] rfl rfl (by kernel_rfl) (fun _ _ _ h => h) (Or.inr ⟨by rfl, rfl⟩) ?_ ?_
              rotate_left
              · simp only [Act.put, List.setIfInBounds_toArray, List.set_cons_zero, List.set_cons_succ, i64_w, i32_w]
                rfl
              refine pure_ (i := 17) (N := some 65) (v := ?_) (a' := ?_) #[true, true, true, true, true, true, true, true, true, true, true, true, true, true, true, true, true, true, false] rfl rfl (by kernel_rfl) (fun _ _ _ h => h) (Or.inl ⟨by rfl, ?_⟩) ?_ ?_
              rotate_left
              · intro w'
                go_simp
                with_reducible rfl
              rotate_left
              · simp only [Act.put, List.setIfInBounds_toArray, List.set_cons_zero, List.set_cons_succ, i64_w, i32_w]
                rfl
              refine pure_ (i := 18) (N := some 11) (v := ?_) (a' := ?_) #[true, true, true, true, true, true, true, true, true, true, true, true, true, true, true, true, true, true, true] rfl rfl (by kernel_rfl) (fun _ _ _ h => h) (Or.inl ⟨by rfl, ?_⟩) ?_ ?_
              rotate_left
              · intro w'
                go_simp
                with_reducible rfl
              rotate_left
              · simp only [Act.put, List.setIfInBounds_toArray, List.set_cons_zero, List.set_cons_succ, i64_w, i32_w]
                rfl
              refine done_ (by kernel_rfl) ?_
              have hb := HD.out
              clear HD HC hHeld
              replace K3 := Aside0.mk (blk_below K3.out hb)
              replace K9 := Aside0.mk (blk_below K9.out hb)
              replace HGOT := Aside0.mk (HGOT.out.below hb)
              replace HB := Aside0.mk (HB.out.trans (hb.mono HB.out.size))
              clear hb
              go_wp2_with fail
              go_roundg (la.length - (i + 1))
              case measure => omega
              case rel => exact ⟨i + 1, by rw [HCT.out]; rfl, by go_num, by omega, K3, K9, HGOT, HB⟩
            | false =>
              cases hq : decide (qq ∈ lb) with
              | false =>
                rw [hq] at HCT
                refine start_ (n := 19) (S := fun w' => w'.cell? ⟨b3, 0, none⟩ = some (.slice A0 x.f0.length c0) ∧ w'.cell? ⟨b3, 1, none⟩ = some (.slice A1 x.f1.length c1) ∧ w'.cell? (ad.add i) = some (.int .i64 qq)) (ds := []) #[false, false, false, false, false, false, false, false, false, false, false, false, false, false, false, false, false, false, false] (by kernel_rfl) rfl rfl (HC.out _ HD.out) (fun hHeld => ?_)
                refine pure_ (i := 0) (N := some 48) (v := ?_) (a' := ?_) #[true, false, false, false, false, false, false, false, false, false, false, false, false, false, false, false, false, false, false] rfl rfl (by kernel_rfl) (fun _ _ _ h => h) (Or.inl ⟨by rfl, ?_⟩) ?_ ?_
                rotate_left
                · intro w'
                  go_simp
                  with_reducible rfl
                rotate_left
                · simp only [Act.put, List.setIfInBounds_toArray, List.set_cons_zero, List.set_cons_succ, i64_w, i32_w]
                  rfl
                refine pure_ (i := 1) (N := some 49) (v := ?_) (a' := ?_) #[true, true, false, false, false, false, false, false, false, false, false, false, false, false, false, false, false, false, false] rfl rfl (by kernel_rfl) (fun _ _ _ h => h) (Or.inl ⟨by rfl, ?_⟩) ?_ ?_
                rotate_left
                · intro w'
                  go_simp
                  with_reducible rfl
                rotate_left
                · simp only [Act.put, List.setIfInBounds_toArray, List.set_cons_zero, List.set_cons_succ, i64_w, i32_w]
                  rfl
                refine pure_ (i := 2) (N := some 50) (v := ?_) (a' := ?_) #[true, true, true, false, false, false, false, false, false, false, false, false, false, false, false, false, false, false, false] rfl rfl (by kernel_rfl) (fun _ _ _ h => h) (Or.inl ⟨by rfl, ?_⟩) ?_ ?_
                rotate_left
                · intro w'
                  go_simp
                  with_reducible rfl
                rotate_left
                · simp only [Act.put, List.setIfInBounds_toArray, List.set_cons_zero, List.set_cons_succ, i64_w, i32_w]
                  rfl
                refine pure_ (i := 3) (N := some 51) (v := ?_) (a' := ?_) #[true, true, true, true, false, false, false, false, false, false, false, false, false, false, false, false, false, false, false] rfl rfl (by kernel_rfl) (fun _ _ _ h => h) (Or.inl ⟨by rfl, ?_⟩) ?_ ?_
                rotate_left
                · intro w'
                  go_simp
                  with_reducible rfl
                rotate_left
                · simp only [Act.put, List.setIfInBounds_toArray, List.set_cons_zero, List.set_cons_succ, i64_w, i32_w]
                  rfl
                refine pure_ (i := 4) (N := some 52) (v := ?_) (a' := ?_) #[true, true, true, true, true, false, false, false, false, false, false, false, false, false, false, false, false, false, false] rfl rfl (by kernel_rfl) (fun _ _ _ h => h) (Or.inl ⟨by rfl, ?_⟩) ?_ ?_
                rotate_left
                · intro w'
                  go_simp
                  with_reducible rfl
                rotate_left
                · simp only [Act.put, List.setIfInBounds_toArray, List.set_cons_zero, List.set_cons_succ, i64_w, i32_w]
                  rfl
                refine pure_ (i := 5) (N := some 53) (v := ?_) (a' := ?_) #[true, true, true, true, true, true, false, false, false, false, false, false, false, false, false, false, false, false, false] rfl rfl (by kernel_rfl) (fun _ _ _ h => h) (Or.inl ⟨by rfl, ?_⟩) ?_ ?_
                rotate_left
                · intro w'
                  go_simp
                  with_reducible rfl
                rotate_left
                · simp only [Act.put, List.setIfInBounds_toArray, List.set_cons_zero, List.set_cons_succ, i64_w, i32_w]
                  rfl
                refine take_ (i := 6) (N := some 54) (v := ?_) (a' := ?_) #[true, true, true, true, true, true, true, false, false, false, false, false, false, false, false, false, false, false, false] rfl rfl (by kernel_rfl) (fun _ _ _ h => h) (Or.inl ⟨by rfl, ?_⟩) hHeld ?_ ?_
                rotate_left
                · rintro w' ⟨s0, s1, s2⟩
                  go_simp
                  with_reducible rfl
                rotate_left
                · simp only [Act.put, List.setIfInBounds_toArray, List.set_cons_zero, List.set_cons_succ, i64_w, i32_w]
                  rfl
                refine one_ (i := 7) (N := some 55) #[true, true, true, true, true, true, true, true, false, false, false, false, false, false, false, false, false, false, false] rfl rfl (by kernel_rfl) (by decide) (fun K hK => ?_)
                refine goes_ Try.func56 (by kernel_rfl) rfl #[.slice Ab lb.length cb, .int .i64 qq] (by rfl) rfl rfl (by (try simp only [List.map_toArray, List.map_cons, List.map_nil]); first | done | rfl) ?_
                refine (in_calls Ab cb lb qq wr.drew (Kd.C_below HLB.out (HB.out.trans (HD.out.mono HB.out.size))) HCB.out (by omega)).mono ?_
                rintro e w7 ⟨rfl, hb⟩
                refine ⟨_, rfl, ?_⟩
                replace HD := Aside0.mk (HD.out.trans (hb.mono HD.out.size))
                clear hb
                rw [hq]
                refine hK.out _ _ (HC.out _ HD.out) (fun hHeld => ?_)
                clear hK K
                refine norm_ (a' := ?_) ?_ ?_
                rotate_left
                · show Act.put _ (some 55) _ = _
                  simp only [Act.put, List.setIfInBounds_toArray, List.set_cons_zero, List.set_cons_succ, i64_w, i32_w]
                  rfl
                refine pure_ (i := 8) (N := some 56) (v := ?_) (a' := ?_) #[true, true, true, true, true, true, true, true, true, false, false, false, false, false, false, false, false, false, false] rfl rfl (by kernel_rfl) (fun _ _ _ h => h) (Or.inl ⟨by rfl, ?_⟩) ?_ ?_
                rotate_left
                · intro w'
                  go_simp
                  with_reducible rfl
                rotate_left
                · simp only [Act.put, List.setIfInBounds_toArray, List.set_cons_zero, List.set_cons_succ, i64_w, i32_w]
                  rfl
                refine pure_ (i := 9) (N := some 57) (v := undef) (a' := ?_) #[true, true, true, true, true, true, true, true, true, true, false, false, false, false, false, false, false, false, false] rfl rfl (by kernel_rfl) (fun _ _ _ h => h) (Or.inr ⟨by rfl, rfl⟩) ?_ ?_
                rotate_left
                · simp only [Act.put, List.setIfInBounds_toArray, List.set_cons_zero, List.set_cons_succ, i64_w, i32_w]
                  rfl
                refine pure_ (i := 10) (N := some 58) (v := undef) (a' := ?_) #[true, true, true, true, true, true, true, true, true, true, true, false, false, false, false, false, false, false, false] rfl rfl (by kernel_rfl) (fun _ _ _ h => h) (Or.inr ⟨by rfl, rfl⟩) ?_ ?_
                rotate_left
                · simp only [Act.put, List.setIfInBounds_toArray, List.set_cons_zero, List.set_cons_succ, i64_w, i32_w]
                  rfl
                refine pure_ (i := 11) (N := some 59) (v := undef) (a' := ?_) #[true, true, true, true, true, true, true, true, true, true, true, true, false, false, false, false, false, false, false] rfl rfl (by kernel_rfl) (fun _ _ _ h => h) (Or.inr ⟨by rfl, rfl⟩) ?_ ?_
                rotate_left
                · simp only [Act.put, List.setIfInBounds_toArray, List.set_cons_zero, List.set_cons_succ, i64_w, i32_w]
                  rfl
                refine pure_ (i := 12) (N := some 60) (v := undef) (a' := ?_) #[true, true, true, true, true, true, true, true, true, true, true, true, true, false, false, false, false, false, false] rfl rfl (by kernel_rfl) (fun _ _ _ h => h) (Or.inr ⟨by rfl, rfl⟩) ?_ ?_
                rotate_left
                · simp only [Act.put, List.setIfInBounds_toArray, List.set_cons_zero, List.set_cons_succ, i64_w, i32_w]
                  rfl
                refine pure_ (i := 13) (N := some 61) (v := undef) (a' := ?_) #[true, true, true, true, true, true, true, true, true, true, true, true, true, true, false, false, false, false, false] rfl rfl (by kernel_rfl) (fun _ _ _ h => h) (Or.inr ⟨by rfl, rfl⟩) ?_ ?_
                rotate_left
                · simp only [Act.put, List.setIfInBounds_toArray, List.set_cons_zero, List.set_cons_succ, i64_w, i32_w]
                  rfl
                refine pure_ (i := 14) (N := some 62) (v := undef) (a' := ?_) #[true, true, true, true, true, true, true, true, true, true, true, true, true, true, true, false, false, false, false] rfl rfl (by kernel_rfl) (fun _ _ _ h => h) (Or.inr ⟨by rfl, rfl⟩) ?_ ?_
                rotate_left
                · simp only [Act.put, List.setIfInBounds_toArray, List.set_cons_zero, List.set_cons_succ, i64_w, i32_w]
                  rfl
                refine pure_ (i := 15) (N := some 63) (v := undef) (a' := ?_) #[true, true, true, true, true, true, true, true, true, true, true, true, true, true, true, true, false, false, false] rfl rfl (by kernel_rfl) (fun _ _ _ h => h) (Or.inr ⟨by rfl, rfl⟩) ?_ ?_
                rotate_left
                · simp only [Act.put, List.setIfInBounds_toArray, List.set_cons_zero, List.set_cons_succ, i64_w, i32_w]
                  rfl
                refine pure_ (i := 16) (N := some 64) (v := ?_) (a' := ?_) #[true, true, true, true, true, true, true, true, true, true, true, true, true, true, true, true, true, false, false] rfl rfl (by kernel_rfl) (fun _ _ _ h => h) (Or.inl ⟨by rfl, ?_⟩) ?_ ?_
                rotate_left
                · intro w'
                  go_simp
                  with_reducible rfl
                rotate_left
                · simp only [Act.put, List.setIfInBounds_toArray, List.set_cons_zero, List.set_cons_succ, i64_w, i32_w]
                  rfl
                refine pure_ (i := 17) (N := some 65) (v := ?_) (a' := ?_) #[true, true, true, true, true, true, true, true, true, true, true, true, true, true, true, true, true, true, false] rfl rfl (by kernel_rfl) (fun _ _ _ h => h) (Or.inl ⟨by rfl, ?_⟩) ?_ ?_
                rotate_left
                · intro w'
                  go_simp
                  with_reducible rfl
                rotate_left
                · simp only [Act.put, List.setIfInBounds_toArray, List.set_cons_zero, List.set_cons_succ, i64_w, i32_w]
                  rfl
                refine pure_ (i := 18) (N := some 11) (v := ?_) (a' := ?_) #[true, true, true, true, true, true, true, true, true, true, true, true, true, true, true, true, true, true, true] rfl rfl (by kernel_rfl) (fun _ _ _ h => h) (Or.inl ⟨by rfl, ?_⟩) ?_ ?_
                rotate_left
                · intro w'
                  go_simp
                  with_reducible rfl
                rotate_left
                · simp only [Act.put, List.setIfInBounds_toArray, List.set_cons_zero, List.set_cons_succ, i64_w, i32_w]
                  rfl
                refine done_ (by kernel_rfl) ?_
                have hb := HD.out
                clear HD HC hHeld
                replace K3 := Aside0.mk (blk_below K3.out hb)
                replace K9 := Aside0.mk (blk_below K9.out hb)
                replace HGOT := Aside0.mk (HGOT.out.below hb)
                replace HB := Aside0.mk (HB.out.trans (hb.mono HB.out.size))
                clear hb
                go_wp2_with fail
                go_roundg (la.length - (i + 1))
                case measure => omega
                case rel => exact ⟨i + 1, by rw [HCT.out]; rfl, by go_num, by omega, K3, K9, HGOT, HB⟩
              | true =>
                rw [hq] at HCT
                refine start_ (n := 19) (S := fun w' => w'.cell? ⟨b3, 0, none⟩ = some (.slice A0 x.f0.length c0) ∧ w'.cell? ⟨b3, 1, none⟩ = some (.slice A1 x.f1.length c1) ∧ w'.cell? (ad.add i) = some (.int .i64 qq)) (ds := []) #[false, false, false, false, false, false, false, false, false, false, false, false, false, false, false, false, false, false, false] (by kernel_rfl) rfl rfl (HC.out _ HD.out) (fun hHeld => ?_)
                refine pure_ (i := 0) (N := some 48) (v := ?_) (a' := ?_) #[true, false, false, false, false, false, false, false, false, false, false, false, false, false, false, false, false, false, false] rfl rfl (by kernel_rfl) (fun _ _ _ h => h) (Or.inl ⟨by rfl, ?_⟩) ?_ ?_
                rotate_left
                · intro w'
                  go_simp
                  with_reducible rfl
                rotate_left
                · simp only [Act.put, List.setIfInBounds_toArray, List.set_cons_zero, List.set_cons_succ, i64_w, i32_w]
                  rfl
                refine pure_ (i := 1) (N := some 49) (v := ?_) (a' := ?_) #[true, true, false, false, false, false, false, false, false, false, false, false, false, false, false, false, false, false, false] rfl rfl (by kernel_rfl) (fun _ _ _ h => h) (Or.inl ⟨by rfl, ?_⟩) ?_ ?_
                rotate_left
                · intro w'
                  go_simp
                  with_reducible rfl
                rotate_left
                · simp only [Act.put, List.setIfInBounds_toArray, List.set_cons_zero, List.set_cons_succ, i64_w, i32_w]
                  rfl
                refine pure_ (i := 2) (N := some 50) (v := ?_) (a' := ?_) #[true, true, true, false, false, false, false, false, false, false, false, false, false, false, false, false, false, false, false] rfl rfl (by kernel_rfl) (fun _ _ _ h => h) (Or.inl ⟨by rfl, ?_⟩) ?_ ?_
                rotate_left
                · intro w'
                  go_simp
                  with_reducible rfl
                rotate_left
                · simp only [Act.put, List.setIfInBounds_toArray, List.set_cons_zero, List.set_cons_succ, i64_w, i32_w]
                  rfl
                refine pure_ (i := 3) (N := some 51) (v := ?_) (a' := ?_) #[true, true, true, true, false, false, false, false, false, false, false, false, false, false, false, false, false, false, false] rfl rfl (by kernel_rfl) (fun _ _ _ h => h) (Or.inl ⟨by rfl, ?_⟩) ?_ ?_
                rotate_left
                · intro w'
                  go_simp
                  with_reducible rfl
                rotate_left
                · simp only [Act.put, List.setIfInBounds_toArray, List.set_cons_zero, List.set_cons_succ, i64_w, i32_w]
                  rfl
                refine pure_ (i := 4) (N := some 52) (v := ?_) (a' := ?_) #[true, true, true, true, true, false, false, false, false, false, false, false, false, false, false, false, false, false, false] rfl rfl (by kernel_rfl) (fun _ _ _ h => h) (Or.inl ⟨by rfl, ?_⟩) ?_ ?_
                rotate_left
                · intro w'
                  go_simp
                  with_reducible rfl
                rotate_left
                · simp only [Act.put, List.setIfInBounds_toArray, List.set_cons_zero, List.set_cons_succ, i64_w, i32_w]
                  rfl
                refine pure_ (i := 5) (N := some 53) (v := ?_) (a' := ?_) #[true, true, true, true, true, true, false, false, false, false, false, false, false, false, false, false, false, false, false] rfl rfl (by kernel_rfl) (fun _ _ _ h => h) (Or.inl ⟨by rfl, ?_⟩) ?_ ?_
                rotate_left
                · intro w'
                  go_simp
                  with_reducible rfl
                rotate_left
                · simp only [Act.put, List.setIfInBounds_toArray, List.set_cons_zero, List.set_cons_succ, i64_w, i32_w]
                  rfl
                refine take_ (i := 6) (N := some 54) (v := ?_) (a' := ?_) #[true, true, true, true, true, true, true, false, false, false, false, false, false, false, false, false, false, false, false] rfl rfl (by kernel_rfl) (fun _ _ _ h => h) (Or.inl ⟨by rfl, ?_⟩) hHeld ?_ ?_
                rotate_left
                · rintro w' ⟨s0, s1, s2⟩
                  go_simp
                  with_reducible rfl
                rotate_left
                · simp only [Act.put, List.setIfInBounds_toArray, List.set_cons_zero, List.set_cons_succ, i64_w, i32_w]
                  rfl
                refine one_ (i := 7) (N := some 55) #[true, true, true, true, true, true, true, true, false, false, false, false, false, false, false, false, false, false, false] rfl rfl (by kernel_rfl) (by decide) (fun K hK => ?_)
                refine goes_ Try.func56 (by kernel_rfl) rfl #[.slice Ab lb.length cb, .int .i64 qq] (by rfl) rfl rfl (by (try simp only [List.map_toArray, List.map_cons, List.map_nil]); first | done | rfl) ?_
                refine (in_calls Ab cb lb qq wr.drew (Kd.C_below HLB.out (HB.out.trans (HD.out.mono HB.out.size))) HCB.out (by omega)).mono ?_
                rintro e w7 ⟨rfl, hb⟩
                refine ⟨_, rfl, ?_⟩
                replace HD := Aside0.mk (HD.out.trans (hb.mono HD.out.size))
                clear hb
                rw [hq]
                refine hK.out _ _ (HC.out _ HD.out) (fun hHeld => ?_)
                clear hK K
                refine norm_ (a' := ?_) ?_ ?_
                rotate_left
                · show Act.put _ (some 55) _ = _
                  simp only [Act.put, List.setIfInBounds_toArray, List.set_cons_zero, List.set_cons_succ, i64_w, i32_w]
                  rfl
                refine pure_ (i := 8) (N := some 56) (v := ?_) (a' := ?_) #[true, true, true, true, true, true, true, true, true, false, false, false, false, false, false, false, false, false, false] rfl rfl (by kernel_rfl) (fun _ _ _ h => h) (Or.inl ⟨by rfl, ?_⟩) ?_ ?_
                rotate_left
                · intro w'
                  go_simp
                  with_reducible rfl
                rotate_left
                · simp only [Act.put, List.setIfInBounds_toArray, List.set_cons_zero, List.set_cons_succ, i64_w, i32_w]
                  rfl
                refine pure_ (i := 9) (N := some 57) (v := ?_) (a' := ?_) #[true, true, true, true, true, true, true, true, true, true, false, false, false, false, false, false, false, false, false] rfl rfl (by kernel_rfl) (fun _ _ _ h => h) (Or.inl ⟨by rfl, ?_⟩) ?_ ?_
                rotate_left
                · intro w'
                  go_simp
                  with_reducible rfl
                rotate_left
                · simp only [Act.put, List.setIfInBounds_toArray, List.set_cons_zero, List.set_cons_succ, i64_w, i32_w]
                  rfl
                refine pure_ (i := 11) (N := some 59) (v := ?_) (a' := ?_) #[true, true, true, true, true, true, true, true, true, true, false, true, false, false, false, false, false, false, false] rfl rfl (by kernel_rfl) (fun _ _ _ h => h) (Or.inl ⟨by rfl, ?_⟩) ?_ ?_
                rotate_left
                · intro w'
                  go_simp
                  with_reducible rfl
                rotate_left
                · simp only [Act.put, List.setIfInBounds_toArray, List.set_cons_zero, List.set_cons_succ, i64_w, i32_w]
                  rfl
                refine pure_ (i := 12) (N := some 60) (v := ?_) (a' := ?_) #[true, true, true, true, true, true, true, true, true, true, false, true, true, false, false, false, false, false, false] rfl rfl (by kernel_rfl) (fun _ _ _ h => h) (Or.inl ⟨by rfl, ?_⟩) ?_ ?_
                rotate_left
                · intro w'
                  go_simp
                  with_reducible rfl
                rotate_left
                · simp only [Act.put, List.setIfInBounds_toArray, List.set_cons_zero, List.set_cons_succ, i64_w, i32_w]
                  rfl
                refine pure_ (i := 13) (N := some 61) (v := ?_) (a' := ?_) #[true, true, true, true, true, true, true, true, true, true, false, true, true, true, false, false, false, false, false] rfl rfl (by kernel_rfl) (fun _ _ _ h => h) (Or.inl ⟨by rfl, ?_⟩) ?_ ?_
                rotate_left
                · intro w'
                  go_simp
                  with_reducible rfl
                rotate_left
                · simp only [Act.put, List.setIfInBounds_toArray, List.set_cons_zero, List.set_cons_succ, i64_w, i32_w]
                  rfl
                refine take_ (i := 10) (N := some 58) (v := ?_) (a' := ?_) #[true, true, true, true, true, true, true, true, true, true, true, true, true, true, false, false, false, false, false] rfl rfl (by kernel_rfl) (fun _ _ _ h => h) (Or.inl ⟨by rfl, ?_⟩) hHeld ?_ ?_
                rotate_left
                · rintro w' ⟨s0, s1, s2⟩
                  go_simp
                  with_reducible rfl
                rotate_left
                · simp only [Act.put, List.setIfInBounds_toArray, List.set_cons_zero, List.set_cons_succ, i64_w, i32_w]
                  rfl
                refine take_ (i := 14) (N := some 62) (v := ?_) (a' := ?_) #[true, true, true, true, true, true, true, true, true, true, true, true, true, true, true, false, false, false, false] rfl rfl (by kernel_rfl) (fun _ _ _ h => h) (Or.inl ⟨by rfl, ?_⟩) hHeld ?_ ?_
                rotate_left
                · rintro w' ⟨s0, s1, s2⟩
                  go_simp
                  with_reducible rfl
                rotate_left
                · simp only [Act.put, List.setIfInBounds_toArray, List.set_cons_zero, List.set_cons_succ, i64_w, i32_w]
                  rfl
                refine one_ (i := 15) (N := some 63) #[true, true, true, true, true, true, true, true, true, true, true, true, true, true, true, true, false, false, false] rfl rfl (by kernel_rfl) (by decide) (fun K hK => ?_)
                refine goes_ Try.func56 (by kernel_rfl) rfl #[.slice A0 x.f0.length c0, .int .i64 qq] (by rfl) rfl rfl (by (try simp only [List.map_toArray, List.map_cons, List.map_nil]); first | done | rfl) ?_
                refine (in_calls A0 c0 x.f0 qq w7 (HX.out.below (HB.out.trans (HD.out.mono HB.out.size))).g0 (HX.out.below (HB.out.trans (HD.out.mono HB.out.size))).l0 (by omega)).mono ?_
                rintro e w8 ⟨rfl, hb⟩
                refine ⟨_, rfl, ?_⟩
                replace HD := Aside0.mk (HD.out.trans (hb.mono HD.out.size))
                clear hb
                refine hK.out _ _ (HC.out _ HD.out) (fun hHeld => ?_)
                clear hK K
                refine norm_ (a' := ?_) ?_ ?_
                rotate_left
                · show Act.put _ (some 63) _ = _
                  simp only [Act.put, List.setIfInBounds_toArray, List.set_cons_zero, List.set_cons_succ, i64_w, i32_w]
                  rfl
                refine pure_ (i := 16) (N := some 64) (v := ?_) (a' := ?_) #[true, true, true, true, true, true, true, true, true, true, true, true, true, true, true, true, true, false, false] rfl rfl (by kernel_rfl) (fun _ _ _ h => h) (Or.inl ⟨by rfl, ?_⟩) ?_ ?_
                rotate_left
                · intro w'
                  go_simp
                  with_reducible rfl
                rotate_left
                · simp only [Act.put, List.setIfInBounds_toArray, List.set_cons_zero, List.set_cons_succ, i64_w, i32_w]
                  rfl
                refine pure_ (i := 17) (N := some 65) (v := ?_) (a' := ?_) #[true, true, true, true, true, true, true, true, true, true, true, true, true, true, true, true, true, true, false] rfl rfl (by kernel_rfl) (fun _ _ _ h => h) (Or.inl ⟨by rfl, ?_⟩) ?_ ?_
                rotate_left
                · intro w'
                  go_simp
                  with_reducible rfl
                rotate_left
                · simp only [Act.put, List.setIfInBounds_toArray, List.set_cons_zero, List.set_cons_succ, i64_w, i32_w]
                  rfl
                refine pure_ (i := 18) (N := some 11) (v := ?_) (a' := ?_) #[true, true, true, true, true, true, true, true, true, true, true, true, true, true, true, true, true, true, true] rfl rfl (by kernel_rfl) (fun _ _ _ h => h) (Or.inl ⟨by rfl, ?_⟩) ?_ ?_
                rotate_left
                · intro w'
                  go_simp
                  with_reducible rfl
                rotate_left
                · simp only [Act.put, List.setIfInBounds_toArray, List.set_cons_zero, List.set_cons_succ, i64_w, i32_w]
                  rfl
                refine done_ (by kernel_rfl) ?_
                have hb := HD.out
                clear HD HC hHeld
                replace K3 := Aside0.mk (blk_below K3.out hb)
                replace K9 := Aside0.mk (blk_below K9.out hb)
                replace HGOT := Aside0.mk (HGOT.out.below hb)
                replace HB := Aside0.mk (HB.out.trans (hb.mono HB.out.size))
                clear hb
                go_wp2_with fail
                go_roundg (la.length - (i + 1))
                case measure => omega
                case rel => exact ⟨i + 1, by rw [HCT.out]; simp, by go_num, by omega, K3, K9, HGOT, HB⟩
          ·
            rw [List.take_of_length_le (by omega)]
            have HM1 : Aside0 (majB x.f0 la = true → majB x.f0 lb = true → comB la lb x.f0 = true) := ⟨fun h1 h2 => meet (of_decide_eq_true h1) (Nat.le_of_lt (of_decide_eq_true h2))⟩
            have HM2 : Aside0 (res.2 = 0 → majB x.f0 la = true → majB res.1.f0 lb = true → comB la lb x.f0 = true) := ⟨fun h0 h1 h2 => by
              have hr := HRES.out
              unfold nxF at hr
              by_cases hrt : rtB x = true
              · rw [if_pos hrt] at hr
                unfold runF at hr
                by_cases he : nextE x d id = 0
                · rw [if_neg (by simpa using he)] at hr
                  have hr2 : (nextC x d id, (0 : Int)) = res := hr
                  rw [← hr2] at h2
                  exact meet_next (rtB_iff.1 hrt) he h1 h2
                · rw [if_pos he] at hr
                  rw [← hr] at h0
                  exact absurd h0 he
              · rw [if_neg hrt] at hr
                rw [← hr] at h0
                exact absurd h0 (by decide)⟩
            have HLN : Aside0 (res.1.f0.length ≤ 1000000) := ⟨by
              have hr := HRES.out
              unfold nxF at hr
              by_cases hrt : rtB x = true
              · rw [if_pos hrt] at hr
                by_cases he : (runF x [⟨d, id⟩]).2 = 0
                · have := (runF_rt (rtB_iff.1 hrt) he).len
                  rw [hr] at this
                  omega
                · unfold runF at hr he
                  by_cases he2 : nextE x d id = 0
                  · rw [if_neg (by simpa using he2)] at he
                    exact absurd rfl he
                  · rw [if_pos he2] at hr
                    rw [← hr]
                    show (0 : Nat) ≤ _
                    omega
              · rw [if_neg hrt] at hr
                rw [← hr]
                show (0 : Nat) ≤ _
                omega⟩
            generalize comB la lb x.f0 = cm at HM1 HM2 ⊢
            have K3c0 := (blk_cell K3.out 0).trans (show _ = some (.slice A0 x.f0.length c0) from rfl)
            have K3c1 := (blk_cell K3.out 1).trans (show _ = some (.slice A1 x.f1.length c1) from rfl)
            go_wp2_with fail
            refine (maj_calls A0 A1 c0 c1 x Aa ca la wr (HX.out.below HB.out) (Kd.C_below HA.out HB.out) HCA.out (by omega) (by omega)).mono ?_
            rintro e u1 ⟨rfl, hb⟩
            clear K3c0 K3c1
            replace K3 := Aside0.mk (blk_below K3.out hb)
            replace K9 := Aside0.mk (blk_below K9.out hb)
            replace HGOT := Aside0.mk (HGOT.out.below hb)
            replace HB := Aside0.mk (HB.out.trans (hb.mono HB.out.size))
            clear hb
            generalize hmA : majB x.f0 la = vA
            have HMA := Aside0.mk hmA
            clear hmA
            cases vA with
            | false =>
              by_cases he : res.2 = 0
              ·
                have t1 : (res.2 != 0) = false := by simpa using he
                have K3c0 := (blk_cell K3.out 0).trans (show _ = some (.slice A0 x.f0.length c0) from rfl)
                have K3c1 := (blk_cell K3.out 1).trans (show _ = some (.slice A1 x.f1.length c1) from rfl)
                have K9c0 := (blk_cell K9.out 0).trans (show _ = some (.slice G0 res.1.f0.length k0) from rfl)
                have K9c1 := (blk_cell K9.out 1).trans (show _ = some (.slice G1 res.1.f1.length k1) from rfl)
                go_wp2_with fail
                refine (maj_calls A0 A1 c0 c1 x Aa ca la u1 (HX.out.below HB.out) (Kd.C_below HA.out HB.out) HCA.out (by omega) (by omega)).mono ?_
                rintro e u8 ⟨rfl, hb⟩
                clear K3c0 K3c1 K9c0 K9c1
                replace K3 := Aside0.mk (blk_below K3.out hb)
                replace K9 := Aside0.mk (blk_below K9.out hb)
                replace HGOT := Aside0.mk (HGOT.out.below hb)
                replace HB := Aside0.mk (HB.out.trans (hb.mono HB.out.size))
                clear hb
                rw [HMA.out]
                go_wp2_with fail
                go_ret
                exact ⟨rfl, HB.out⟩
              ·
                have t1 : (res.2 != 0) = true := by simpa using he
                clear he
                go_wp2_with fail
                go_ret
                exact ⟨rfl, HB.out⟩
            | true =>
              have K3c0 := (blk_cell K3.out 0).trans (show _ = some (.slice A0 x.f0.length c0) from rfl)
              have K3c1 := (blk_cell K3.out 1).trans (show _ = some (.slice A1 x.f1.length c1) from rfl)
              go_wp2_with fail
              refine (maj_calls A0 A1 c0 c1 x Ab cb lb u1 (HX.out.below HB.out) (Kd.C_below HLB.out HB.out) HCB.out (by omega) (by omega)).mono ?_
              rintro e u2 ⟨rfl, hb⟩
              clear K3c0 K3c1
              replace K3 := Aside0.mk (blk_below K3.out hb)
              replace K9 := Aside0.mk (blk_below K9.out hb)
              replace HGOT := Aside0.mk (HGOT.out.below hb)
              replace HB := Aside0.mk (HB.out.trans (hb.mono HB.out.size))
              clear hb
              cases hmB : majB x.f0 lb with
              | false =>
                clear hmB
                by_cases he : res.2 = 0
                ·
                  have t1 : (res.2 != 0) = false := by simpa using he
                  have K3c0 := (blk_cell K3.out 0).trans (show _ = some (.slice A0 x.f0.length c0) from rfl)
                  have K3c1 := (blk_cell K3.out 1).trans (show _ = some (.slice A1 x.f1.length c1) from rfl)
                  have K9c0 := (blk_cell K9.out 0).trans (show _ = some (.slice G0 res.1.f0.length k0) from rfl)
                  have K9c1 := (blk_cell K9.out 1).trans (show _ = some (.slice G1 res.1.f1.length k1) from rfl)
                  go_wp2_with fail
                  refine (maj_calls A0 A1 c0 c1 x Aa ca la u2 (HX.out.below HB.out) (Kd.C_below HA.out HB.out) HCA.out (by omega) (by omega)).mono ?_
                  rintro e u8 ⟨rfl, hb⟩
                  clear K3c0 K3c1 K9c0 K9c1
                  replace K3 := Aside0.mk (blk_below K3.out hb)
                  replace K9 := Aside0.mk (blk_below K9.out hb)
                  replace HGOT := Aside0.mk (HGOT.out.below hb)
                  replace HB := Aside0.mk (HB.out.trans (hb.mono HB.out.size))
                  clear hb
                  rw [HMA.out]
                  have K9c0 := (blk_cell K9.out 0).trans (show _ = some (.slice G0 res.1.f0.length k0) from rfl)
                  have K9c1 := (blk_cell K9.out 1).trans (show _ = some (.slice G1 res.1.f1.length k1) from rfl)
                  go_wp2_with fail
                  refine (maj_calls G0 G1 k0 k1 res.1 Ab cb lb u8 HGOT.out (Kd.C_below HLB.out HB.out) HCB.out HLN.out (by omega)).mono ?_
                  rintro e u9 ⟨rfl, hb⟩
                  clear K9c0 K9c1
                  replace K3 := Aside0.mk (blk_below K3.out hb)
                  replace K9 := Aside0.mk (blk_below K9.out hb)
                  replace HGOT := Aside0.mk (HGOT.out.below hb)
                  replace HB := Aside0.mk (HB.out.trans (hb.mono HB.out.size))
                  clear hb
                  cases hmD : majB res.1.f0 lb with
                  | false =>
                    clear hmD
                    go_wp2_with fail
                    go_ret
                    exact ⟨rfl, HB.out⟩
                  | true =>
                    (try obtain rfl := HM2.out he HMA.out hmD)
                    clear hmD
                    go_wp2_with fail
                    go_ret
                    exact ⟨rfl, HB.out⟩
                ·
                  have t1 : (res.2 != 0) = true := by simpa using he
                  clear he
                  go_wp2_with fail
                  go_ret
                  exact ⟨rfl, HB.out⟩
              | true =>
                obtain rfl := HM1.out HMA.out hmB
                clear hmB HM1
                have K3c0 := (blk_cell K3.out 0).trans (show _ = some (.slice A0 x.f0.length c0) from rfl)
                have K3c1 := (blk_cell K3.out 1).trans (show _ = some (.slice A1 x.f1.length c1) from rfl)
                go_wp2_with fail
                refine (refright_calls A0 A1 c0 c1 x u2 (HX.out.below HB.out) (by omega) (by omega)).mono ?_
                rintro e u3 ⟨rfl, hb⟩
                clear K3c0 K3c1
                replace K3 := Aside0.mk (blk_below K3.out hb)
                replace K9 := Aside0.mk (blk_below K9.out hb)
                replace HGOT := Aside0.mk (HGOT.out.below hb)
                replace HB := Aside0.mk (HB.out.trans (hb.mono HB.out.size))
                clear hb
                cases hrt : rtB x with
                | false =>
                  clear hrt
                  by_cases he : res.2 = 0
                  ·
                    have t1 : (res.2 != 0) = false := by simpa using he
                    have K3c0 := (blk_cell K3.out 0).trans (show _ = some (.slice A0 x.f0.length c0) from rfl)
                    have K3c1 := (blk_cell K3.out 1).trans (show _ = some (.slice A1 x.f1.length c1) from rfl)
                    have K9c0 := (blk_cell K9.out 0).trans (show _ = some (.slice G0 res.1.f0.length k0) from rfl)
                    have K9c1 := (blk_cell K9.out 1).trans (show _ = some (.slice G1 res.1.f1.length k1) from rfl)
                    go_wp2_with fail
                    refine (maj_calls A0 A1 c0 c1 x Aa ca la u3 (HX.out.below HB.out) (Kd.C_below HA.out HB.out) HCA.out (by omega) (by omega)).mono ?_
                    rintro e u8 ⟨rfl, hb⟩
                    clear K3c0 K3c1 K9c0 K9c1
                    replace K3 := Aside0.mk (blk_below K3.out hb)
                    replace K9 := Aside0.mk (blk_below K9.out hb)
                    replace HGOT := Aside0.mk (HGOT.out.below hb)
                    replace HB := Aside0.mk (HB.out.trans (hb.mono HB.out.size))
                    clear hb
                    rw [HMA.out]
                    have K9c0 := (blk_cell K9.out 0).trans (show _ = some (.slice G0 res.1.f0.length k0) from rfl)
                    have K9c1 := (blk_cell K9.out 1).trans (show _ = some (.slice G1 res.1.f1.length k1) from rfl)
                    go_wp2_with fail
                    refine (maj_calls G0 G1 k0 k1 res.1 Ab cb lb u8 HGOT.out (Kd.C_below HLB.out HB.out) HCB.out HLN.out (by omega)).mono ?_
                    rintro e u9 ⟨rfl, hb⟩
                    clear K9c0 K9c1
                    replace K3 := Aside0.mk (blk_below K3.out hb)
                    replace K9 := Aside0.mk (blk_below K9.out hb)
                    replace HGOT := Aside0.mk (HGOT.out.below hb)
                    replace HB := Aside0.mk (HB.out.trans (hb.mono HB.out.size))
                    clear hb
                    cases hmD : majB res.1.f0 lb with
                    | false =>
                      clear hmD
                      go_wp2_with fail
                      go_ret
                      exact ⟨rfl, HB.out⟩
                    | true =>
                      (try obtain rfl := HM2.out he HMA.out hmD)
                      clear hmD
                      go_wp2_with fail
                      go_ret
                      exact ⟨rfl, HB.out⟩
                  ·
                    have t1 : (res.2 != 0) = true := by simpa using he
                    clear he
                    go_wp2_with fail
                    go_ret
                    exact ⟨rfl, HB.out⟩
                | true =>
                  clear hrt
                  by_cases he : res.2 = 0
                  ·
                    have t1 : (res.2 != 0) = false := by simpa using he
                    have K3c0 := (blk_cell K3.out 0).trans (show _ = some (.slice A0 x.f0.length c0) from rfl)
                    have K3c1 := (blk_cell K3.out 1).trans (show _ = some (.slice A1 x.f1.length c1) from rfl)
                    have K9c0 := (blk_cell K9.out 0).trans (show _ = some (.slice G0 res.1.f0.length k0) from rfl)
                    have K9c1 := (blk_cell K9.out 1).trans (show _ = some (.slice G1 res.1.f1.length k1) from rfl)
                    go_wp2_with fail
                    refine (maj_calls A0 A1 c0 c1 x Aa ca la u3 (HX.out.below HB.out) (Kd.C_below HA.out HB.out) HCA.out (by omega) (by omega)).mono ?_
                    rintro e u8 ⟨rfl, hb⟩
                    clear K3c0 K3c1 K9c0 K9c1
                    replace K3 := Aside0.mk (blk_below K3.out hb)
                    replace K9 := Aside0.mk (blk_below K9.out hb)
                    replace HGOT := Aside0.mk (HGOT.out.below hb)
                    replace HB := Aside0.mk (HB.out.trans (hb.mono HB.out.size))
                    clear hb
                    rw [HMA.out]
                    have K9c0 := (blk_cell K9.out 0).trans (show _ = some (.slice G0 res.1.f0.length k0) from rfl)
                    have K9c1 := (blk_cell K9.out 1).trans (show _ = some (.slice G1 res.1.f1.length k1) from rfl)
                    go_wp2_with fail
                    refine (maj_calls G0 G1 k0 k1 res.1 Ab cb lb u8 HGOT.out (Kd.C_below HLB.out HB.out) HCB.out HLN.out (by omega)).mono ?_
                    rintro e u9 ⟨rfl, hb⟩
                    clear K9c0 K9c1
                    replace K3 := Aside0.mk (blk_below K3.out hb)
                    replace K9 := Aside0.mk (blk_below K9.out hb)
                    replace HGOT := Aside0.mk (HGOT.out.below hb)
                    replace HB := Aside0.mk (HB.out.trans (hb.mono HB.out.size))
                    clear hb
                    cases hmD : majB res.1.f0 lb with
                    | false =>
                      clear hmD
                      go_wp2_with fail
                      go_ret
                      exact ⟨rfl, HB.out⟩
                    | true =>
                      (try obtain rfl := HM2.out he HMA.out hmD)
                      clear hmD
                      go_wp2_with fail
                      go_ret
                      exact ⟨rfl, HB.out⟩
                  ·
                    have t1 : (res.2 != 0) = true := by simpa using he
                    clear he
                    go_wp2_with fail
                    go_ret
                    exact ⟨rfl, HB.out⟩
end Go.Proofs.Ytkeadpichlgagaa.Me
