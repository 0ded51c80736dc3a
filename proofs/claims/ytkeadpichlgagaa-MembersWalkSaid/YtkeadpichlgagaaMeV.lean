/- MembersWalk, walked. -/
import Derived.Test.YtkeadpichlgagaaMeU
namespace Go.Proofs.Ytkeadpichlgagaa.Me
open Go.RowKit Go.Lib Go.Sort Go.Shelf Go.Proofs.YtkeadpichlgagaaW.PrintWords Go.Proofs.YtkeadpichlgagaaW.PrintLast Go.Proofs.YtkeadpichlgagaaW.PrintMore
open Go.Proofs.Ytkeadpichlgagaa.PMembersNext Go.Proofs.Ytkeadpichlgagaa.Mp
set_option linter.unusedVariables false
set_option linter.unusedSimpArgs false
set_option linter.unnecessarySimpa false
theorem vote_calls (A0 A1 : Option Addr) (c0 c1 : Nat) (x : S67) (q : Int) (w : World) (hx : CfR w x A0 c0 A1 c1) (h0 : x.f0.length ≤ 1000000) :
    Calls Try.prog 57 #[.agg #[.slice A0 x.f0.length c0, .slice A1 x.f1.length c1], .int .i64 q] w fun e w' => e = .returned (.bool (decide (q ∈ x.f0))) ∧ Below w.heap.size w w' := by
  obtain ⟨k, hk⟩ := (votes_ev x.f0 x.f1 q (by omega)).rounds
  exact members_Votes.calls k A0 c0 x.f0 A1 c1 x.f1 q _ w hx.g0 hx.l0 hx.g1 hx.l1 hk
theorem hasit_calls (A0 A1 : Option Addr) (c0 c1 : Nat) (x : S67) (q : Int) (w : World) (hx : CfR w x A0 c0 A1 c1) (h0 : x.f0.length ≤ 1000000) (h1 : x.f1.length ≤ 1000000) :
    Calls Try.prog 58 #[.agg #[.slice A0 x.f0.length c0, .slice A1 x.f1.length c1], .int .i64 q] w fun e w' => e = .returned (.bool (decide (q ∈ x.f0 ∨ q ∈ x.f1))) ∧ Below w.heap.size w w' := by
  obtain ⟨k, hk⟩ := (has_ev x.f0 x.f1 q (by omega) (by omega)).rounds
  exact members_Has.calls k A0 c0 x.f0 A1 c1 x.f1 q _ w hx.g0 hx.l0 hx.g1 hx.l1 hk
theorem ad_zero (ad : Addr) : ad.add 0 = ad := by cases ad; simp [Addr.add]
theorem row_at {w : World} {A : Option Addr} {xs : List Int} (h : (Kd.int .i64).C w A xs.length xs) {i : Nat} {q : Int} (hi : xs[i]? = some q) : ∃ ad, A = some ad ∧ ∀ W, Below w.heap.size w W → W.cell? (ad.add i) = some (.int .i64 q) := by
  obtain ⟨hlt, hq⟩ := List.getElem?_eq_some_iff.1 hi
  obtain ⟨ad, e, _⟩ := h.2.2 (by omega)
  subst e
  refine ⟨ad, rfl, fun W hW => ?_⟩
  rw [C_cells (Kd.C_below h hW) rfl i hlt, ← hq]
  simp [hlt]
def St (x y : S67) (w wc : World) (b2 b3 b5 : Nat) (A0 A1 B0 B1 : Option Addr) (c0 c1 d0 d1 : Nat) (AA : Option Addr) (al : List Int) (z : S67) (C0 : Option Addr) (k0 : Nat) (C1 : Option Addr) (k1 : Nat) : Prop :=
  wc.heap[b2]? = some (.cells #[.slice A0 x.f0.length c0, .slice A1 x.f1.length c1] 67 (0, 0)) ∧ wc.heap[b3]? = some (.cells #[.slice B0 y.f0.length d0, .slice B1 y.f1.length d1] 67 (0, 0)) ∧ wc.heap[b5]? = some (.cells #[.slice C0 z.f0.length k0, .slice C1 z.f1.length k1] 67 (0, 0)) ∧
    CfR wc z C0 k0 C1 k1 ∧ (Kd.int .i64).C wc AA al.length al ∧ Below w.heap.size w wc
set_option maxHeartbeats 16000000 in
set_option maxRecDepth 100000 in
theorem walk_law (A0 A1 : Option Addr) (c0 c1 : Nat) (x : S67) (B0 B1 : Option Addr) (d0 d1 : Nat) (y : S67) (w : World) (hx : CfR w x A0 c0 A1 c1) (hy : CfR w y B0 d0 B1 d1) :
    Calls Try.prog 14 #[.agg #[.slice A0 x.f0.length c0, .slice A1 x.f1.length c1], .agg #[.slice B0 y.f0.length d0, .slice B1 y.f1.length d1]] w fun e w' => e = .returned (.bool true) ∧ Below w.heap.size w w' := by
  have hu67 := Try.underlying67
  have HX := Aside0.mk hx
  have HY := Aside0.mk hy
  clear hx hy
  go_enter Try.func14, Try.ntmps14
  go_upto_region 1 with fail
  have HB : Aside0 (Below w.heap.size w ((w.alloc (Obj.cells #[.slice A0 x.f0.length c0, .slice A1 x.f1.length c1] 67)).alloc (Obj.cells #[.slice B0 y.f0.length d0, .slice B1 y.f1.length d1] 67))) := ⟨((Below.refl _ w).alloc (Nat.le_refl _) _).alloc (by simp) _⟩
  have K2 := Aside0.mk (blk_alloc (grown_new (w := w) #[.slice A0 x.f0.length c0, .slice A1 x.f1.length c1] 67) (Obj.cells #[.slice B0 y.f0.length d0, .slice B1 y.f1.length d1] 67))
  have K3 := Aside0.mk (grown_new (w := w.alloc (Obj.cells #[.slice A0 x.f0.length c0, .slice A1 x.f1.length c1] 67)) #[.slice B0 y.f0.length d0, .slice B1 y.f1.length d1] 67)
  simp only [World.size_alloc] at K3
  generalize (w.alloc (Obj.cells #[.slice A0 x.f0.length c0, .slice A1 x.f1.length c1] 67)).alloc (Obj.cells #[.slice B0 y.f0.length d0, .slice B1 y.f1.length d1] 67) = w1 at HB K2 K3 ⊢
  obtain ⟨b2, hb2⟩ : ∃ b, w.heap.size = b := ⟨_, rfl⟩
  obtain ⟨b3, hb3⟩ : ∃ b, w.heap.size + 1 = b := ⟨_, rfl⟩
  rw [hb3] at K3 ⊢
  rw [hb2] at K2 ⊢
  clear hb2 hb3
  go_wp2_with fail
  refine (awake_calls _).mono ?_
  rintro e w3 ⟨rfl, hb⟩
  replace K2 := Aside0.mk (blk_below K2.out hb)
  replace K3 := Aside0.mk (blk_below K3.out hb)
  replace HB := Aside0.mk (HB.out.trans (hb.mono HB.out.size))
  clear hb
  have K2c0 := (blk_cell K2.out 0).trans (show _ = some (.slice A0 x.f0.length c0) from rfl)
  have K2c1 := (blk_cell K2.out 1).trans (show _ = some (.slice A1 x.f1.length c1) from rfl)
  go_wp2_with fail
  refine (small_calls A0 A1 c0 c1 x w3 (HX.out.below HB.out)).mono ?_
  rintro e w4 ⟨rfl, hb⟩
  clear K2c0 K2c1
  replace K2 := Aside0.mk (blk_below K2.out hb)
  replace K3 := Aside0.mk (blk_below K3.out hb)
  replace HB := Aside0.mk (HB.out.trans (hb.mono HB.out.size))
  clear hb
  cases hsm : smB x with
  | false =>
    clear hsm
    go_wp2_with fail
    refine (awake_calls _).mono ?_
    rintro e w9 ⟨rfl, hb⟩
    replace K2 := Aside0.mk (blk_below K2.out hb)
    replace K3 := Aside0.mk (blk_below K3.out hb)
    replace HB := Aside0.mk (HB.out.trans (hb.mono HB.out.size))
    clear hb
    go_wp2_with fail
    go_ret
    exact ⟨rfl, HB.out⟩
  | true =>
    obtain ⟨hs0, hs1⟩ := of_decide_eq_true hsm
    clear hsm
    have K3c0 := (blk_cell K3.out 0).trans (show _ = some (.slice B0 y.f0.length d0) from rfl)
    have K3c1 := (blk_cell K3.out 1).trans (show _ = some (.slice B1 y.f1.length d1) from rfl)
    go_wp2_with fail
    refine (small_calls B0 B1 d0 d1 y w4 (HY.out.below HB.out)).mono ?_
    rintro e w5 ⟨rfl, hb⟩
    clear K3c0 K3c1
    replace K2 := Aside0.mk (blk_below K2.out hb)
    replace K3 := Aside0.mk (blk_below K3.out hb)
    replace HB := Aside0.mk (HB.out.trans (hb.mono HB.out.size))
    clear hb
    cases hsm : smB y with
    | false =>
      clear hsm
      go_wp2_with fail
      refine (awake_calls _).mono ?_
      rintro e w9 ⟨rfl, hb⟩
      replace K2 := Aside0.mk (blk_below K2.out hb)
      replace K3 := Aside0.mk (blk_below K3.out hb)
      replace HB := Aside0.mk (HB.out.trans (hb.mono HB.out.size))
      clear hb
      go_wp2_with fail
      go_ret
      exact ⟨rfl, HB.out⟩
    | true =>
      obtain ⟨hs2, hs3⟩ := of_decide_eq_true hsm
      clear hsm
      have K2c0 := (blk_cell K2.out 0).trans (show _ = some (.slice A0 x.f0.length c0) from rfl)
      have K2c1 := (blk_cell K2.out 1).trans (show _ = some (.slice A1 x.f1.length c1) from rfl)
      go_wp2_with fail
      refine (refright_calls A0 A1 c0 c1 x w5 (HX.out.below HB.out) (by omega) (by omega)).mono ?_
      rintro e w6 ⟨rfl, hb⟩
      clear K2c0 K2c1
      replace K2 := Aside0.mk (blk_below K2.out hb)
      replace K3 := Aside0.mk (blk_below K3.out hb)
      replace HB := Aside0.mk (HB.out.trans (hb.mono HB.out.size))
      clear hb
      cases hrx : rtB x with
      | false =>
        clear hrx
        go_wp2_with fail
        refine (awake_calls _).mono ?_
        rintro e w9 ⟨rfl, hb⟩
        replace K2 := Aside0.mk (blk_below K2.out hb)
        replace K3 := Aside0.mk (blk_below K3.out hb)
        replace HB := Aside0.mk (HB.out.trans (hb.mono HB.out.size))
        clear hb
        go_wp2_with fail
        go_ret
        exact ⟨rfl, HB.out⟩
      | true =>
        have HRX := Aside0.mk (rtB_iff.1 hrx)
        clear hrx
        have K3c0 := (blk_cell K3.out 0).trans (show _ = some (.slice B0 y.f0.length d0) from rfl)
        have K3c1 := (blk_cell K3.out 1).trans (show _ = some (.slice B1 y.f1.length d1) from rfl)
        go_wp2_with fail
        refine (refright_calls B0 B1 d0 d1 y w6 (HY.out.below HB.out) (by omega) (by omega)).mono ?_
        rintro e w7 ⟨rfl, hb⟩
        clear K3c0 K3c1
        replace K2 := Aside0.mk (blk_below K2.out hb)
        replace K3 := Aside0.mk (blk_below K3.out hb)
        replace HB := Aside0.mk (HB.out.trans (hb.mono HB.out.size))
        clear hb
        cases hry : rtB y with
        | false =>
          clear hry
          go_wp2_with fail
          refine (awake_calls _).mono ?_
          rintro e w9 ⟨rfl, hb⟩
          replace K2 := Aside0.mk (blk_below K2.out hb)
          replace K3 := Aside0.mk (blk_below K3.out hb)
          replace HB := Aside0.mk (HB.out.trans (hb.mono HB.out.size))
          clear hb
          go_wp2_with fail
          go_ret
          exact ⟨rfl, HB.out⟩
        | true =>
          have HRY := Aside0.mk (rtB_iff.1 hry)
          clear hry
          have hlx := HRX.out.len
          have hly := HRY.out.len
          have hny : 0 < y.f0.length := List.length_pos_iff.2 HRY.out.ne
          have K2c0 := (blk_cell K2.out 0).trans (show _ = some (.slice A0 x.f0.length c0) from rfl)
          have K2c1 := (blk_cell K2.out 1).trans (show _ = some (.slice A1 x.f1.length c1) from rfl)
          go_upto_region 5 with fail
          obtain ⟨b5, hb5⟩ : ∃ b, w7.heap.size = b := ⟨_, rfl⟩
          have HBr : Below w7.heap.size w7 (w7.alloc (Obj.cells #[.slice A0 x.f0.length c0, .slice A1 x.f1.length c1] 67)) := (Below.refl _ w7).alloc (Nat.le_refl _) _
          have K5 := Aside0.mk (grown_new (w := w7) #[.slice A0 x.f0.length c0, .slice A1 x.f1.length c1] 67)
          have HG5 : Aside0 (w.heap.size ≤ b5) := ⟨by rw [← hb5]; exact HB.out.size⟩
          have HN5 : Aside0 (b2 ≠ b5 ∧ b3 ≠ b5) := ⟨by have h1 := blk_lt K2.out; have h2 := blk_lt K3.out; omega⟩
          rw [hb5] at K5 ⊢
          clear hb5
          clear K2c0 K2c1
          replace K2 := Aside0.mk (blk_below K2.out HBr)
          replace K3 := Aside0.mk (blk_below K3.out HBr)
          replace HB := Aside0.mk (HB.out.trans (HBr.mono HB.out.size))
          clear HBr
          generalize w7.alloc (Obj.cells #[.slice A0 x.f0.length c0, .slice A1 x.f1.length c1] 67) = w8 at *
          have HD : Aside0 (Below w8.heap.size w8 w8.drew) := ⟨(Below.refl _ _).drew⟩
          have HC : Aside0 (∀ W, Below w8.heap.size w8 W → W.cell? ⟨b2, 0, none⟩ = some (.slice A0 x.f0.length c0) ∧ W.cell? ⟨b2, 1, none⟩ = some (.slice A1 x.f1.length c1)) := ⟨fun W hW => ⟨(blk_cell (blk_below K2.out hW) 0).trans rfl, (blk_cell (blk_below K2.out hW) 1).trans rfl⟩⟩
          refine start_ (n := 8) (S := fun w' => w'.cell? ⟨b2, 0, none⟩ = some (.slice A0 x.f0.length c0) ∧ w'.cell? ⟨b2, 1, none⟩ = some (.slice A1 x.f1.length c1)) (ds := []) #[false, false, false, false, false, false, false, false] (by kernel_rfl) rfl rfl (HC.out _ HD.out) (fun hHeld => ?_)
          refine pure_ (i := 1) (N := some 39) (v := ?_) (a' := ?_) #[false, true, false, false, false, false, false, false] rfl rfl (by kernel_rfl) (fun _ _ _ h => h) (Or.inl ⟨by rfl, ?_⟩) ?_ ?_
          rotate_left
          · intro w'
            go_simp
            with_reducible rfl
          rotate_left
          · simp only [Act.put, List.setIfInBounds_toArray, List.set_cons_zero, List.set_cons_succ, i64_w, i32_w]
            rfl
          refine pure_ (i := 4) (N := some 42) (v := ?_) (a' := ?_) #[false, true, false, false, true, false, false, false] rfl rfl (by kernel_rfl) (fun _ _ _ h => h) (Or.inl ⟨by rfl, ?_⟩) ?_ ?_
          rotate_left
          · intro w'
            go_simp
            with_reducible rfl
          rotate_left
          · simp only [Act.put, List.setIfInBounds_toArray, List.set_cons_zero, List.set_cons_succ, i64_w, i32_w]
            rfl
          refine take_ (i := 2) (N := some 40) (v := ?_) (a' := ?_) #[false, true, true, false, true, false, false, false] rfl rfl (by kernel_rfl) (fun _ _ _ h => h) (Or.inl ⟨by rfl, ?_⟩) hHeld ?_ ?_
          rotate_left
          · rintro w' ⟨s0, s1⟩
            go_simp
            with_reducible rfl
          rotate_left
          · simp only [Act.put, List.setIfInBounds_toArray, List.set_cons_zero, List.set_cons_succ, i64_w, i32_w]
            rfl
          refine take_ (i := 5) (N := some 43) (v := ?_) (a' := ?_) #[false, true, true, false, true, true, false, false] rfl rfl (by kernel_rfl) (fun _ _ _ h => h) (Or.inl ⟨by rfl, ?_⟩) hHeld ?_ ?_
          rotate_left
          · rintro w' ⟨s0, s1⟩
            go_simp
            with_reducible rfl
          rotate_left
          · simp only [Act.put, List.setIfInBounds_toArray, List.set_cons_zero, List.set_cons_succ, i64_w, i32_w]
            rfl
          refine one_ (i := 0) (N := some 38) #[true, true, true, false, true, true, false, false] rfl rfl (by kernel_rfl) (by decide) (fun K hK => ?_)
          refine value_ (w1 := ?_) (v := ?_) (by rfl) rfl ?_ ?_
          rotate_left 2
          · go_simp
            constructor
            · rfl
            · rfl
          have hb : Below w8.drew.heap.size w8.drew (w8.drew.alloc (Obj.cells #[] 3)) := (Below.refl _ w8.drew).alloc (Nat.le_refl _) _
          have HE : Aside0 (Rg.Empty 3 w8.heap.size (.slice (some ⟨w8.drew.heap.size, 0, none⟩) 0 0) (w8.drew.alloc (Obj.cells #[] 3))) := ⟨w8.drew.heap.size, _, rfl, Nat.le_refl _, grown_new _ _, rfl⟩
          replace HD := Aside0.mk (HD.out.trans (hb.mono HD.out.size))
          clear hb
          refine hK.out _ _ (HC.out _ HD.out) (fun hHeld => ?_)
          clear hK K
          refine norm_ (a' := ?_) ?_ ?_
          rotate_left
          · show Act.put _ (some 38) _ = _
            simp only [Act.put, List.setIfInBounds_toArray, List.set_cons_zero, List.set_cons_succ, i64_w, i32_w]
            rfl
          refine one_ (i := 3) (N := some 41) #[true, true, true, true, true, true, false, false] rfl rfl (by kernel_rfl) (by decide) (fun K hK => ?_)
          refine Rg.fresh_append (α := Int) (enc := Value.int .i64) (h1 := fun _ => rfl) w8.heap.size (by rfl) (.tmp 38) (.tmp 40) 25 3 (.int .i64 0) 8 rfl rfl Try.underlying25 info3 rfl (by decide) _ x.f0 A0 x.f0.length c0 (by rfl) (by rfl) HE.out (HX.out.below (HB.out.trans (HD.out.mono HB.out.size))).g0 HD.out.size (by omega) ?_
          intro v41 w9 hr hb
          have HR41 := Aside0.mk hr
          replace HD := Aside0.mk (HD.out.trans (hb.mono HD.out.size))
          clear hb hr HE
          refine hK.out _ _ (HC.out _ HD.out) (fun hHeld => ?_)
          clear hK K
          refine norm_ (a' := ?_) ?_ ?_
          rotate_left
          · show Act.put _ (some 41) _ = _
            simp only [Act.put, List.setIfInBounds_toArray, List.set_cons_zero, List.set_cons_succ, i64_w, i32_w]
            rfl
          refine one_ (i := 6) (N := some 44) #[true, true, true, true, true, true, true, false] rfl rfl (by kernel_rfl) (by decide) (fun K hK => ?_)
          refine Kd.R_append_rows_step (Kd.int .i64) (Rr := (Kd.int .i64).K w9) (w0 := w8) w8.heap.size (by rfl) (.tmp 41) (.tmp 43) 25 3 (.int .i64 0) 8 rfl Try.underlying25 info3 rfl (by decide) (by decide) v41 x.f0 x.f1 A1 x.f1.length c1 (fun _ => True) (fun _ => False) (by rfl) (by rfl) HR41.out (HX.out.below (HB.out.trans (HD.out.mono HB.out.size))).g1 (fun _ _ h => h) (fun _ h => h.elim) (fun _ _ => trivial) HD.out HD.out.size (by have : (x.f0.length + x.f1.length) * 8 ≤ 9 * 8 := Nat.mul_le_mul_right _ hlx; omega) ?_
          intro v44 w10 hr hb hg hat
          obtain ⟨al, hal⟩ : ∃ al, x.f0 ++ x.f1 = al := ⟨_, rfl⟩
          rw [hal] at hr
          have HAL := Aside0.mk hal
          clear hal
          obtain ⟨AA, kA, rfl⟩ := Kd.R_slice hr
          have HALL := Aside0.mk (Kd.R_reads' hr).2.2
          have HKA := Aside0.mk (Kd.R_reads' hr).2.1
          replace HD := Aside0.mk hb
          clear hb hr hg hat HR41
          refine hK.out _ _ (HC.out _ HD.out) (fun hHeld => ?_)
          clear hK K
          refine norm_ (a' := ?_) ?_ ?_
          rotate_left
          · show Act.put _ (some 44) _ = _
            simp only [Act.put, List.setIfInBounds_toArray, List.set_cons_zero, List.set_cons_succ, i64_w, i32_w]
            rfl
          refine pure_ (i := 7) (N := some 7) (v := ?_) (a' := ?_) #[true, true, true, true, true, true, true, true] rfl rfl (by kernel_rfl) (fun _ _ _ h => h) (Or.inl ⟨by rfl, ?_⟩) ?_ ?_
          rotate_left
          · intro w'
            go_simp
            with_reducible rfl
          rotate_left
          · simp only [Act.put, List.setIfInBounds_toArray, List.set_cons_zero, List.set_cons_succ, i64_w, i32_w]
            rfl
          refine done_ (by kernel_rfl) ?_
          have hb := HD.out
          clear HD HC hHeld
          replace K2 := Aside0.mk (blk_below K2.out hb)
          replace K3 := Aside0.mk (blk_below K3.out hb)
          replace K5 := Aside0.mk (blk_below K5.out hb)
          replace HB := Aside0.mk (HB.out.trans (hb.mono HB.out.size))
          clear hb
          obtain ⟨k, hk⟩ : ∃ k, y.f0[0]? = some k := ⟨y.f0[0], List.getElem?_eq_getElem hny⟩
          obtain ⟨adk, eak, hkq⟩ := row_at (HY.out.below HB.out).g0 hk
          have hky := hkq _ (Below.refl _ w10)
          rw [ad_zero] at hky
          have HKY := Aside0.mk hk
          have HKB : Aside0 (0 ≤ k ∧ k < 1048576) := ⟨HRY.out.bd (.inl (List.mem_of_getElem? hk))⟩
          clear hk hkq
          have K3c0 := (blk_cell K3.out 0).trans (show _ = some (.slice B0 y.f0.length d0) from rfl)
          have K3c1 := (blk_cell K3.out 1).trans (show _ = some (.slice B1 y.f1.length d1) from rfl)
          rw [eak] at K3c0
          have hny2 : (0 : Int) < (y.f0.length : Int) := by omega
          go_upto_region 7 with fail
          clear eak hky hny2
          clear K3c0 K3c1
          have hla : al.length = x.f0.length + x.f1.length := by rw [← HAL.out]; exact List.length_append
          have HLA := Aside0.mk hla
          have hla9 : al.length ≤ 9 := by omega
          clear hla
          obtain ⟨nb, hnb⟩ : ∃ nb, (!decide (k ∈ al) && decide (9 ≤ al.length)) = nb := ⟨_, rfl⟩
          have HNB := Aside0.mk hnb
          clear hnb
          have HS := Aside0.mk (show St x y w w10 b2 b3 b5 A0 A1 B0 B1 c0 c1 d0 d1 AA al x A0 c0 A1 c1 from ⟨K2.out, K3.out, K5.out, (HX.out.below HB.out), HALL.out, HB.out⟩)
          go_cut [57] (fun v57 wc => v57 = .bool nb ∧ Aside0 (St x y w wc b2 b3 b5 A0 A1 B0 B1 c0 c1 d0 d1 AA al x A0 c0 A1 c1))
          case first =>
            clear HS
            have HZ := Aside0.mk (HX.out.below HB.out)
            by_cases hin : k ∈ al
            ·
              go_wp2_with fail
              refine (in_calls AA kA al k w10 HALL.out HKA.out (by omega)).mono ?_
              rintro e w11 ⟨rfl, hb⟩
              rw [decide_eq_true hin]
              replace K2 := Aside0.mk (blk_below K2.out hb)
              replace K3 := Aside0.mk (blk_below K3.out hb)
              replace K5 := Aside0.mk (blk_below K5.out hb)
              replace HZ := Aside0.mk (HZ.out.below hb)
              replace HALL := Aside0.mk (Kd.C_below HALL.out hb)
              replace HB := Aside0.mk (HB.out.trans (hb.mono HB.out.size))
              clear hb
              go_wp2_with fail
              go_meet
              case rel => exact ⟨by rw [← HNB.out, decide_eq_true hin]; rfl, ⟨⟨K2.out, K3.out, K5.out, HZ.out, HALL.out, HB.out⟩⟩⟩
            ·
              go_wp2_with fail
              refine (in_calls AA kA al k w10 HALL.out HKA.out (by omega)).mono ?_
              rintro e w11 ⟨rfl, hb⟩
              rw [decide_eq_false hin]
              replace K2 := Aside0.mk (blk_below K2.out hb)
              replace K3 := Aside0.mk (blk_below K3.out hb)
              replace K5 := Aside0.mk (blk_below K5.out hb)
              replace HZ := Aside0.mk (HZ.out.below hb)
              replace HALL := Aside0.mk (Kd.C_below HALL.out hb)
              replace HB := Aside0.mk (HB.out.trans (hb.mono HB.out.size))
              clear hb
              go_wp2_with fail
              go_meet
              case rel => exact ⟨by rw [← HNB.out, decide_eq_false hin]; simp; omega, ⟨⟨K2.out, K3.out, K5.out, HZ.out, HALL.out, HB.out⟩⟩⟩
          case rest =>
            clear K2 K3 K5 HALL HB HS
            obtain ⟨rfl, HS⟩ := hcut
            have K2 := Aside0.mk HS.out.1
            have K3 := Aside0.mk HS.out.2.1
            have K5 := Aside0.mk HS.out.2.2.1
            have HZ := Aside0.mk HS.out.2.2.2.1
            have HALL := Aside0.mk HS.out.2.2.2.2.1
            have HB := Aside0.mk HS.out.2.2.2.2.2
            clear HS
            go_upto_if 57 with fail
            go_cut [] (fun wd => ∃ (z : S67) (C0 : Option Addr) (k0 : Nat) (C1 : Option Addr) (k1 : Nat), Aside0 (Near x k z ∧ (¬ (k ∈ z.f0 ∨ k ∈ z.f1) → z.f0.length + z.f1.length ≤ 8)) ∧ Aside0 (St x y w wd b2 b3 b5 A0 A1 B0 B1 c0 c1 d0 d1 AA al z C0 k0 C1 k1))
            case first =>
              cases nb with
              | false =>
                go_wp2_with fail
                go_meet
                case rel => exact ⟨x, A0, c0, A1, c1, ⟨⟨HRX.out, fun q hq _ => by rw [HAL.out]; rw [← HAL.out]; exact List.mem_append.2 hq⟩, fun hn => by
                  have h1 := HNB.out
                  have h2 : k ∉ al := by rw [← HAL.out, List.mem_append]; exact hn
                  rw [decide_eq_false h2] at h1
                  have h3 : ¬ 9 ≤ al.length := by simpa using h1
                  have := HLA.out
                  omega⟩, ⟨⟨K2.out, K3.out, K5.out, HZ.out, HALL.out, HB.out⟩⟩⟩
              | true =>
                obtain ⟨hin, h9⟩ : k ∉ al ∧ 9 ≤ al.length := by have h := HNB.out; simpa using h
                obtain ⟨q, hq⟩ : ∃ q, al[al.length - 1]? = some q := ⟨_, List.getElem?_eq_getElem (by omega)⟩
                obtain ⟨ad, eaa, hcell⟩ := row_at HALL.out hq
                have hqc := hcell _ (Below.refl _ wc)
                have HRM : Aside0 (¬ (x.f1.length = 0 ∧ x.f0.length = 1) ∧ nextE x 3 q = 0 ∧ Rt (nextC x 3 q) ∧ (nextC x 3 q).f0.length + (nextC x 3 q).f1.length ≤ 8 ∧ (∀ r, r ∈ (nextC x 3 q).f0 ∨ r ∈ (nextC x 3 q).f1 → r ∈ x.f0 ++ x.f1)) := ⟨by
                  rw [← HAL.out] at hin h9 hq
                  exact room HRX.out hin h9 hq⟩
                have hn9 : al.length = 9 := by omega
                rw [hn9] at hqc
                rw [show ad.add (9 - 1) = ⟨ad.block, ad.off + 8, none⟩ from by cases ad; simp [Addr.add]] at hqc
                have HN9 := Aside0.mk hn9
                clear hq hcell hin h9
                subst eaa
                have e1 : ((al.length : Int) - 1) = 8 := by omega
                have h8 : (8 : Int) < (al.length : Int) := by omega
                clear hn9
                have K2c0 := (blk_cell K2.out 0).trans (show _ = some (.slice A0 x.f0.length c0) from rfl)
                have K2c1 := (blk_cell K2.out 1).trans (show _ = some (.slice A1 x.f1.length c1) from rfl)
                by_cases h0 : x.f1.length = 0
                ·
                  have z0 : ((x.f1.length : Int) == 0) = true := by simpa using h0
                  have z1 : ((x.f0.length : Int) == 1) = false := by
                    have := HRM.out.1
                    simp
                    omega
                  have z2 : (x.f1.length == 0) = true := by simpa using h0
                  have z3 : (x.f0.length == 1) = false := by
                    have := HRM.out.1
                    simp
                    omega
                  clear h0
                  go_wp2_with fail
                  refine (step_calls b5 A0 A1 c0 c1 x 3 q wc K5.out HZ.out HRX.out HRM.out.2.1).mono ?_
                  rintro e w12 ⟨rfl, hf, C0, k0, C1, k1, hk5, hz⟩
                  clear K2c0 K2c1
                  replace HALL := Aside0.mk (C_keep HALL.out K5.out hf)
                  replace K2 := Aside0.mk (hf.blk K2.out HN5.out.1)
                  replace K3 := Aside0.mk (hf.blk K3.out HN5.out.2)
                  replace K5 := Aside0.mk hk5
                  replace HZ := Aside0.mk hz
                  replace HB := Aside0.mk (HB.out.trans (hf.to_below HG5.out HB.out.size))
                  clear hf hk5 hz hqc
                  go_wp2_with fail
                  go_meet
                  case rel => exact ⟨nextC x 3 q, C0, k0, C1, k1, ⟨⟨HRM.out.2.2.1, fun r hr _ => HRM.out.2.2.2.2 r hr⟩, fun _ => HRM.out.2.2.2.1⟩, ⟨⟨K2.out, K3.out, K5.out, HZ.out, HALL.out, HB.out⟩⟩⟩
                ·
                  have z0 : ((x.f1.length : Int) == 0) = false := by simpa using h0
                  have z2 : (x.f1.length == 0) = false := by simpa using h0
                  clear h0
                  go_wp2_with fail
                  refine (step_calls b5 A0 A1 c0 c1 x 3 q wc K5.out HZ.out HRX.out HRM.out.2.1).mono ?_
                  rintro e w12 ⟨rfl, hf, C0, k0, C1, k1, hk5, hz⟩
                  clear K2c0 K2c1
                  replace HALL := Aside0.mk (C_keep HALL.out K5.out hf)
                  replace K2 := Aside0.mk (hf.blk K2.out HN5.out.1)
                  replace K3 := Aside0.mk (hf.blk K3.out HN5.out.2)
                  replace K5 := Aside0.mk hk5
                  replace HZ := Aside0.mk hz
                  replace HB := Aside0.mk (HB.out.trans (hf.to_below HG5.out HB.out.size))
                  clear hf hk5 hz hqc
                  go_wp2_with fail
                  go_meet
                  case rel => exact ⟨nextC x 3 q, C0, k0, C1, k1, ⟨⟨HRM.out.2.2.1, fun r hr _ => HRM.out.2.2.2.2 r hr⟩, fun _ => HRM.out.2.2.2.1⟩, ⟨⟨K2.out, K3.out, K5.out, HZ.out, HALL.out, HB.out⟩⟩⟩
            case rest =>
              clear K2 K3 K5 HALL HB HZ HNB HLA
              obtain ⟨z, C0, k0, C1, k1, HNE, HS⟩ := hcut
              have K2 := Aside0.mk HS.out.1
              have K3 := Aside0.mk HS.out.2.1
              have K5 := Aside0.mk HS.out.2.2.1
              have HZ := Aside0.mk HS.out.2.2.2.1
              have HALL := Aside0.mk HS.out.2.2.2.2.1
              have HB := Aside0.mk HS.out.2.2.2.2.2
              clear HS
              have hlz := HNE.out.1.rt.len
              go_upto_region 11 with fail
              go_cut [101] (fun v101 we => v101 = .bool false ∧ ∃ (z : S67) (C0 : Option Addr) (k0 : Nat) (C1 : Option Addr) (k1 : Nat), Aside0 (Hold x k z 0) ∧ Aside0 (St x y w we b2 b3 b5 A0 A1 B0 B1 c0 c1 d0 d1 AA al z C0 k0 C1 k1))
              case first =>
                have K5c0 := (blk_cell K5.out 0).trans (show _ = some (.slice C0 z.f0.length k0) from rfl)
                have K5c1 := (blk_cell K5.out 1).trans (show _ = some (.slice C1 z.f1.length k1) from rfl)
                go_wp2_with fail
                refine (hasit_calls C0 C1 k0 k1 z k wc HZ.out (by omega) (by omega)).mono ?_
                rintro e w13 ⟨rfl, hb⟩
                clear K5c0 K5c1
                replace K2 := Aside0.mk (blk_below K2.out hb)
                replace K3 := Aside0.mk (blk_below K3.out hb)
                replace K5 := Aside0.mk (blk_below K5.out hb)
                replace HZ := Aside0.mk (HZ.out.below hb)
                replace HALL := Aside0.mk (Kd.C_below HALL.out hb)
                replace HB := Aside0.mk (HB.out.trans (hb.mono HB.out.size))
                clear hb
                by_cases hhas : k ∈ z.f0 ∨ k ∈ z.f1
                ·
                  rw [decide_eq_true hhas]
                  have K5c0 := (blk_cell K5.out 0).trans (show _ = some (.slice C0 z.f0.length k0) from rfl)
                  have K5c1 := (blk_cell K5.out 1).trans (show _ = some (.slice C1 z.f1.length k1) from rfl)
                  go_wp2_with fail
                  refine (vote_calls C0 C1 k0 k1 z k w13 HZ.out (by omega)).mono ?_
                  rintro e w14 ⟨rfl, hb⟩
                  clear K5c0 K5c1
                  replace K2 := Aside0.mk (blk_below K2.out hb)
                  replace K3 := Aside0.mk (blk_below K3.out hb)
                  replace K5 := Aside0.mk (blk_below K5.out hb)
                  replace HZ := Aside0.mk (HZ.out.below hb)
                  replace HALL := Aside0.mk (Kd.C_below HALL.out hb)
                  replace HB := Aside0.mk (HB.out.trans (hb.mono HB.out.size))
                  clear hb
                  by_cases hv : k ∈ z.f0
                  ·
                    rw [decide_eq_true hv]
                    go_wp2_with fail
                    go_meet
                    case rel => exact ⟨rfl, z, C0, k0, C1, k1, ⟨HNE.out.1.hold hv⟩, ⟨⟨K2.out, K3.out, K5.out, HZ.out, HALL.out, HB.out⟩⟩⟩
                  ·
                    rw [decide_eq_false hv]
                    have hl := hhas.resolve_left hv
                    have HVT := Aside0.mk (HNE.out.1.vote hl)
                    clear hhas hv hl
                    go_wp2_with fail
                    refine (step_calls b5 C0 C1 k0 k1 (z) 2 k w14 K5.out HZ.out HNE.out.1.rt HVT.out.1).mono ?_
                    rintro e w15 ⟨rfl, hf, C0', k0', C1', k1', hk5, hz⟩
                    replace HALL := Aside0.mk (C_keep HALL.out K5.out hf)
                    replace K2 := Aside0.mk (hf.blk K2.out HN5.out.1)
                    replace K3 := Aside0.mk (hf.blk K3.out HN5.out.2)
                    replace HB := Aside0.mk (HB.out.trans (hf.to_below HG5.out HB.out.size))
                    replace K5 := Aside0.mk hk5
                    replace HZ := Aside0.mk hz
                    clear hf hk5 hz
                    go_wp2_with fail
                    go_meet
                    case rel => exact ⟨rfl, nextC z 2 k, C0', k0', C1', k1', ⟨HVT.out.2⟩, ⟨⟨K2.out, K3.out, K5.out, HZ.out, HALL.out, HB.out⟩⟩⟩
                ·
                  rw [decide_eq_false hhas]
                  have HAD := Aside0.mk (HNE.out.1.add HKB.out (HNE.out.2 hhas) hhas)
                  have HVT := Aside0.mk (HAD.out.2.1.vote HAD.out.2.2.1)
                  clear hhas
                  go_wp2_with fail
                  refine (step_calls b5 C0 C1 k0 k1 (z) 1 k w13 K5.out HZ.out HNE.out.1.rt HAD.out.1).mono ?_
                  rintro e w14 ⟨rfl, hf, C0', k0', C1', k1', hk5, hz⟩
                  replace HALL := Aside0.mk (C_keep HALL.out K5.out hf)
                  replace K2 := Aside0.mk (hf.blk K2.out HN5.out.1)
                  replace K3 := Aside0.mk (hf.blk K3.out HN5.out.2)
                  replace HB := Aside0.mk (HB.out.trans (hf.to_below HG5.out HB.out.size))
                  replace K5 := Aside0.mk hk5
                  replace HZ := Aside0.mk hz
                  clear hf hk5 hz
                  have hlz2 := HAD.out.2.1.rt.len
                  have HNV : Aside0 (decide (k ∈ (nextC z 1 k).f0) = false) := ⟨decide_eq_false HAD.out.2.2.2⟩
                  generalize hzz : nextC z 1 k = zz at *
                  clear hzz
                  have K5c0 := (blk_cell K5.out 0).trans (show _ = some (.slice C0' zz.f0.length k0') from rfl)
                  have K5c1 := (blk_cell K5.out 1).trans (show _ = some (.slice C1' zz.f1.length k1') from rfl)
                  go_wp2_with fail
                  refine (vote_calls C0' C1' k0' k1' zz k w14 HZ.out (by omega)).mono ?_
                  rintro e w15 ⟨rfl, hb⟩
                  rw [HNV.out]
                  clear K5c0 K5c1
                  replace K2 := Aside0.mk (blk_below K2.out hb)
                  replace K3 := Aside0.mk (blk_below K3.out hb)
                  replace K5 := Aside0.mk (blk_below K5.out hb)
                  replace HZ := Aside0.mk (HZ.out.below hb)
                  replace HALL := Aside0.mk (Kd.C_below HALL.out hb)
                  replace HB := Aside0.mk (HB.out.trans (hb.mono HB.out.size))
                  clear hb
                  go_wp2_with fail
                  refine (step_calls b5 C0' C1' k0' k1' (zz) 2 k w15 K5.out HZ.out HAD.out.2.1.rt HVT.out.1).mono ?_
                  rintro e w16 ⟨rfl, hf, C0'', k0'', C1'', k1'', hk5, hz⟩
                  replace HALL := Aside0.mk (C_keep HALL.out K5.out hf)
                  replace K2 := Aside0.mk (hf.blk K2.out HN5.out.1)
                  replace K3 := Aside0.mk (hf.blk K3.out HN5.out.2)
                  replace HB := Aside0.mk (HB.out.trans (hf.to_below HG5.out HB.out.size))
                  replace K5 := Aside0.mk hk5
                  replace HZ := Aside0.mk hz
                  clear hf hk5 hz
                  go_wp2_with fail
                  go_meet
                  case rel => exact ⟨rfl, nextC zz 2 k, C0'', k0'', C1'', k1'', ⟨HVT.out.2⟩, ⟨⟨K2.out, K3.out, K5.out, HZ.out, HALL.out, HB.out⟩⟩⟩
              case rest =>
                clear K2 K3 K5 HALL HB HZ HNE hlz
                obtain ⟨rfl, z, C0, k0, C1, k1, HH, HS⟩ := hcut
                have K2 := Aside0.mk HS.out.1
                have K3 := Aside0.mk HS.out.2.1
                have K5 := Aside0.mk HS.out.2.2.1
                have HZ := Aside0.mk HS.out.2.2.2.1
                have HALL := Aside0.mk HS.out.2.2.2.2.1
                have HB := Aside0.mk HS.out.2.2.2.2.2
                clear HS
                go_wp2_with fail
                have hu3 : True := trivial
                go_loopg [10] al.length (fun kq v10 wr => ∃ (i : Nat) (z : S67) (C0 : Option Addr) (k0 : Nat) (C1 : Option Addr) (k1 : Nat), v10 = .int .i64 i ∧ i + kq = al.length ∧ Aside0 (Hold x k z i) ∧ Aside0 (St x y w wr b2 b3 b5 A0 A1 B0 B1 c0 c1 d0 d1 AA al z C0 k0 C1 k1))
                case atStart => exact ⟨0, z, C0, k0, C1, k1, rfl, by omega, HH, ⟨⟨K2.out, K3.out, K5.out, HZ.out, HALL.out, HB.out⟩⟩⟩
                case round =>
                  clear K2 K3 K5 HALL HB HZ HH
                  obtain ⟨i, z, C0, k0, C1, k1, rfl, hi, HH, HS⟩ := hrel
                  have K2 := Aside0.mk HS.out.1
                  have K3 := Aside0.mk HS.out.2.1
                  have K5 := Aside0.mk HS.out.2.2.1
                  have HZ := Aside0.mk HS.out.2.2.2.1
                  have HALL := Aside0.mk HS.out.2.2.2.2.1
                  have HB := Aside0.mk HS.out.2.2.2.2.2
                  clear HS
                  have hlz := HH.out.rt.len
                  by_cases hlt : i < al.length
                  ·
                    have hlt' : (i : Int) < (al.length : Int) := by omega
                    obtain ⟨q, hq⟩ : ∃ q, al[i]? = some q := ⟨_, List.getElem?_eq_getElem hlt⟩
                    obtain ⟨ad, ea, hcell⟩ := row_at HALL.out hq
                    subst ea
                    have HQ := Aside0.mk hcell
                    have HQA : Aside0 ((x.f0 ++ x.f1)[i]? = some q) := ⟨by rw [HAL.out]; exact hq⟩
                    clear hcell hq
                    have HD : Aside0 (Below wr.heap.size wr wr.drew) := ⟨(Below.refl _ _).drew⟩
                    have HC : Aside0 (∀ W, Below wr.heap.size wr W → W.cell? ⟨b5, 0, none⟩ = some (.slice C0 z.f0.length k0) ∧ W.cell? ⟨b5, 1, none⟩ = some (.slice C1 z.f1.length k1) ∧ W.cell? (ad.add i) = some (.int .i64 q)) := ⟨fun W hW => ⟨(blk_cell (blk_below K5.out hW) 0).trans rfl, (blk_cell (blk_below K5.out hW) 1).trans rfl, HQ.out W hW⟩⟩
                    go_upto_region 16 with fail
                    by_cases hhas : q ∈ z.f0 ∨ q ∈ z.f1
                    ·
                      by_cases hqk : q = k
                      ·
                        have tq : (q != k) = false := by simpa using hqk
                        have HQK := Aside0.mk hqk
                        clear hqk
                        refine start_ (n := 23) (S := fun w' => w'.cell? ⟨b5, 0, none⟩ = some (.slice C0 z.f0.length k0) ∧ w'.cell? ⟨b5, 1, none⟩ = some (.slice C1 z.f1.length k1) ∧ w'.cell? (ad.add i) = some (.int .i64 q)) (ds := []) #[false, false, false, false, false, false, false, false, false, false, false, false, false, false, false, false, false, false, false, false, false, false, false] (by kernel_rfl) rfl rfl (HC.out _ HD.out) (fun hHeld => ?_)
                        refine pure_ (i := 1) (N := some 109) (v := ?_) (a' := ?_) #[false, true, false, false, false, false, false, false, false, false, false, false, false, false, false, false, false, false, false, false, false, false, false] rfl rfl (by kernel_rfl) (fun _ _ _ h => h) (Or.inl ⟨by rfl, ?_⟩) ?_ ?_
                        rotate_left
                        · intro w'
                          go_simp
                          with_reducible rfl
                        rotate_left
                        · simp only [Act.put, List.setIfInBounds_toArray, List.set_cons_zero, List.set_cons_succ, i64_w, i32_w]
                          rfl
                        refine pure_ (i := 2) (N := some 110) (v := ?_) (a' := ?_) #[false, true, true, false, false, false, false, false, false, false, false, false, false, false, false, false, false, false, false, false, false, false, false] rfl rfl (by kernel_rfl) (fun _ _ _ h => h) (Or.inl ⟨by rfl, ?_⟩) ?_ ?_
                        rotate_left
                        · intro w'
                          go_simp
                          with_reducible rfl
                        rotate_left
                        · simp only [Act.put, List.setIfInBounds_toArray, List.set_cons_zero, List.set_cons_succ, i64_w, i32_w]
                          rfl
                        refine pure_ (i := 3) (N := some 111) (v := ?_) (a' := ?_) #[false, true, true, true, false, false, false, false, false, false, false, false, false, false, false, false, false, false, false, false, false, false, false] rfl rfl (by kernel_rfl) (fun _ _ _ h => h) (Or.inl ⟨by rfl, ?_⟩) ?_ ?_
                        rotate_left
                        · intro w'
                          go_simp
                          with_reducible rfl
                        rotate_left
                        · simp only [Act.put, List.setIfInBounds_toArray, List.set_cons_zero, List.set_cons_succ, i64_w, i32_w]
                          rfl
                        refine take_ (i := 0) (N := some 108) (v := ?_) (a' := ?_) #[true, true, true, true, false, false, false, false, false, false, false, false, false, false, false, false, false, false, false, false, false, false, false] rfl rfl (by kernel_rfl) (fun _ _ _ h => h) (Or.inl ⟨by rfl, ?_⟩) hHeld ?_ ?_
                        rotate_left
                        · rintro w' ⟨s0, s1, s2⟩
                          go_simp
                          with_reducible rfl
                        rotate_left
                        · simp only [Act.put, List.setIfInBounds_toArray, List.set_cons_zero, List.set_cons_succ, i64_w, i32_w]
                          rfl
                        refine take_ (i := 4) (N := some 112) (v := ?_) (a' := ?_) #[true, true, true, true, true, false, false, false, false, false, false, false, false, false, false, false, false, false, false, false, false, false, false] rfl rfl (by kernel_rfl) (fun _ _ _ h => h) (Or.inl ⟨by rfl, ?_⟩) hHeld ?_ ?_
                        rotate_left
                        · rintro w' ⟨s0, s1, s2⟩
                          go_simp
                          with_reducible rfl
                        rotate_left
                        · simp only [Act.put, List.setIfInBounds_toArray, List.set_cons_zero, List.set_cons_succ, i64_w, i32_w]
                          rfl
                        refine one_ (i := 5) (N := some 113) #[true, true, true, true, true, true, false, false, false, false, false, false, false, false, false, false, false, false, false, false, false, false, false] rfl rfl (by kernel_rfl) (by decide) (fun K hK => ?_)
                        refine goes_ Try.func58 (by kernel_rfl) rfl #[.agg #[.slice C0 z.f0.length k0, .slice C1 z.f1.length k1], .int .i64 q] (by rfl) rfl rfl (by (try simp only [List.map_toArray, List.map_cons, List.map_nil]); first | done | rfl) ?_
                        refine (hasit_calls C0 C1 k0 k1 z q wr.drew (HZ.out.below HD.out) (by omega) (by omega)).mono ?_
                        rintro e w17 ⟨rfl, hb⟩
                        rw [decide_eq_true hhas]
                        refine ⟨_, rfl, ?_⟩
                        replace HD := Aside0.mk (HD.out.trans (hb.mono HD.out.size))
                        clear hb
                        refine hK.out _ _ (HC.out _ HD.out) (fun hHeld => ?_)
                        clear hK K
                        refine norm_ (a' := ?_) ?_ ?_
                        rotate_left
                        · show Act.put _ (some 113) _ = _
                          simp only [Act.put, List.setIfInBounds_toArray, List.set_cons_zero, List.set_cons_succ, i64_w, i32_w]
                          rfl
                        refine pure_ (i := 6) (N := some 114) (v := ?_) (a' := ?_) #[true, true, true, true, true, true, true, false, false, false, false, false, false, false, false, false, false, false, false, false, false, false, false] rfl rfl (by kernel_rfl) (fun _ _ _ h => h) (Or.inl ⟨by rfl, ?_⟩) ?_ ?_
                        rotate_left
                        · intro w'
                          go_simp
                          with_reducible rfl
                        rotate_left
                        · simp only [Act.put, List.setIfInBounds_toArray, List.set_cons_zero, List.set_cons_succ, i64_w, i32_w]
                          rfl
                        refine pure_ (i := 7) (N := some 115) (v := ?_) (a' := ?_) #[true, true, true, true, true, true, true, true, false, false, false, false, false, false, false, false, false, false, false, false, false, false, false] rfl rfl (by kernel_rfl) (fun _ _ _ h => h) (Or.inl ⟨by rfl, ?_⟩) ?_ ?_
                        rotate_left
                        · intro w'
                          go_simp
                          with_reducible rfl
                        rotate_left
                        · simp only [Act.put, List.setIfInBounds_toArray, List.set_cons_zero, List.set_cons_succ, i64_w, i32_w]
                          rfl
                        refine pure_ (i := 8) (N := some 116) (v := ?_) (a' := ?_) #[true, true, true, true, true, true, true, true, true, false, false, false, false, false, false, false, false, false, false, false, false, false, false] rfl rfl (by kernel_rfl) (fun _ _ _ h => h) (Or.inl ⟨by rfl, ?_⟩) ?_ ?_
                        rotate_left
                        · intro w'
                          go_simp
                          with_reducible rfl
                        rotate_left
                        · simp only [Act.put, List.setIfInBounds_toArray, List.set_cons_zero, List.set_cons_succ, i64_w, i32_w]
                          rfl
                        refine pure_ (i := 9) (N := some 117) (v := ?_) (a' := ?_) #[true, true, true, true, true, true, true, true, true, true, false, false, false, false, false, false, false, false, false, false, false, false, false] rfl rfl (by kernel_rfl) (fun _ _ _ h => h) (Or.inl ⟨by rfl, ?_⟩) ?_ ?_
                        rotate_left
                        · intro w'
                          go_simp
                          with_reducible rfl
                        rotate_left
                        · simp only [Act.put, List.setIfInBounds_toArray, List.set_cons_zero, List.set_cons_succ, i64_w, i32_w]
                          rfl
                        refine pure_ (i := 11) (N := some 119) (v := ?_) (a' := ?_) #[true, true, true, true, true, true, true, true, true, true, false, true, false, false, false, false, false, false, false, false, false, false, false] rfl rfl (by kernel_rfl) (fun _ _ _ h => h) (Or.inl ⟨by rfl, ?_⟩) ?_ ?_
                        rotate_left
                        · intro w'
                          go_simp
                          with_reducible rfl
                        rotate_left
                        · simp only [Act.put, List.setIfInBounds_toArray, List.set_cons_zero, List.set_cons_succ, i64_w, i32_w]
                          rfl
                        refine take_ (i := 10) (N := some 118) (v := ?_) (a' := ?_) #[true, true, true, true, true, true, true, true, true, true, true, true, false, false, false, false, false, false, false, false, false, false, false] rfl rfl (by kernel_rfl) (fun _ _ _ h => h) (Or.inl ⟨by rfl, ?_⟩) hHeld ?_ ?_
                        rotate_left
                        · rintro w' ⟨s0, s1, s2⟩
                          go_simp
                          with_reducible rfl
                        rotate_left
                        · simp only [Act.put, List.setIfInBounds_toArray, List.set_cons_zero, List.set_cons_succ, i64_w, i32_w]
                          rfl
                        refine pure_ (i := 12) (N := some 120) (v := ?_) (a' := ?_) #[true, true, true, true, true, true, true, true, true, true, true, true, true, false, false, false, false, false, false, false, false, false, false] rfl rfl (by kernel_rfl) (fun _ _ _ h => h) (Or.inl ⟨by rfl, ?_⟩) ?_ ?_
                        rotate_left
                        · intro w'
                          go_simp
                          with_reducible rfl
                        rotate_left
                        · simp only [Act.put, List.setIfInBounds_toArray, List.set_cons_zero, List.set_cons_succ, i64_w, i32_w]
                          rfl
                        refine pure_ (i := 13) (N := some 121) (v := ?_) (a' := ?_) #[true, true, true, true, true, true, true, true, true, true, true, true, true, true, false, false, false, false, false, false, false, false, false] rfl rfl (by kernel_rfl) (fun _ _ _ h => h) (Or.inl ⟨by rfl, ?_⟩) ?_ ?_
                        rotate_left
                        · intro w'
                          go_simp
                          with_reducible rfl
                        rotate_left
                        · simp only [Act.put, List.setIfInBounds_toArray, List.set_cons_zero, List.set_cons_succ, i64_w, i32_w]
                          rfl
                        refine pure_ (i := 14) (N := some 122) (v := ?_) (a' := ?_) #[true, true, true, true, true, true, true, true, true, true, true, true, true, true, true, false, false, false, false, false, false, false, false] rfl rfl (by kernel_rfl) (fun _ _ _ h => h) (Or.inl ⟨by rfl, ?_⟩) ?_ ?_
                        rotate_left
                        · intro w'
                          go_simp
                          with_reducible rfl
                        rotate_left
                        · simp only [Act.put, List.setIfInBounds_toArray, List.set_cons_zero, List.set_cons_succ, i64_w, i32_w]
                          rfl
                        refine pure_ (i := 15) (N := some 123) (v := undef) (a' := ?_) #[true, true, true, true, true, true, true, true, true, true, true, true, true, true, true, true, false, false, false, false, false, false, false] rfl rfl (by kernel_rfl) (fun _ _ _ h => h) (Or.inr ⟨by rfl, rfl⟩) ?_ ?_
                        rotate_left
                        · simp only [Act.put, List.setIfInBounds_toArray, List.set_cons_zero, List.set_cons_succ, i64_w, i32_w]
                          rfl
                        refine pure_ (i := 16) (N := some 124) (v := undef) (a' := ?_) #[true, true, true, true, true, true, true, true, true, true, true, true, true, true, true, true, true, false, false, false, false, false, false] rfl rfl (by kernel_rfl) (fun _ _ _ h => h) (Or.inr ⟨by rfl, rfl⟩) ?_ ?_
                        rotate_left
                        · simp only [Act.put, List.setIfInBounds_toArray, List.set_cons_zero, List.set_cons_succ, i64_w, i32_w]
                          rfl
                        refine pure_ (i := 17) (N := some 125) (v := undef) (a' := ?_) #[true, true, true, true, true, true, true, true, true, true, true, true, true, true, true, true, true, true, false, false, false, false, false] rfl rfl (by kernel_rfl) (fun _ _ _ h => h) (Or.inr ⟨by rfl, rfl⟩) ?_ ?_
                        rotate_left
                        · simp only [Act.put, List.setIfInBounds_toArray, List.set_cons_zero, List.set_cons_succ, i64_w, i32_w]
                          rfl
                        refine pure_ (i := 18) (N := some 126) (v := undef) (a' := ?_) #[true, true, true, true, true, true, true, true, true, true, true, true, true, true, true, true, true, true, true, false, false, false, false] rfl rfl (by kernel_rfl) (fun _ _ _ h => h) (Or.inr ⟨by rfl, rfl⟩) ?_ ?_
                        rotate_left
                        · simp only [Act.put, List.setIfInBounds_toArray, List.set_cons_zero, List.set_cons_succ, i64_w, i32_w]
                          rfl
                        refine pure_ (i := 19) (N := some 127) (v := undef) (a' := ?_) #[true, true, true, true, true, true, true, true, true, true, true, true, true, true, true, true, true, true, true, true, false, false, false] rfl rfl (by kernel_rfl) (fun _ _ _ h => h) (Or.inr ⟨by rfl, rfl⟩) ?_ ?_
                        rotate_left
                        · simp only [Act.put, List.setIfInBounds_toArray, List.set_cons_zero, List.set_cons_succ, i64_w, i32_w]
                          rfl
                        refine pure_ (i := 20) (N := some 128) (v := undef) (a' := ?_) #[true, true, true, true, true, true, true, true, true, true, true, true, true, true, true, true, true, true, true, true, true, false, false] rfl rfl (by kernel_rfl) (fun _ _ _ h => h) (Or.inr ⟨by rfl, rfl⟩) ?_ ?_
                        rotate_left
                        · simp only [Act.put, List.setIfInBounds_toArray, List.set_cons_zero, List.set_cons_succ, i64_w, i32_w]
                          rfl
                        refine pure_ (i := 21) (N := some 129) (v := undef) (a' := ?_) #[true, true, true, true, true, true, true, true, true, true, true, true, true, true, true, true, true, true, true, true, true, true, false] rfl rfl (by kernel_rfl) (fun _ _ _ h => h) (Or.inr ⟨by rfl, rfl⟩) ?_ ?_
                        rotate_left
                        · simp only [Act.put, List.setIfInBounds_toArray, List.set_cons_zero, List.set_cons_succ, i64_w, i32_w]
                          rfl
                        refine pure_ (i := 22) (N := some 130) (v := ?_) (a' := ?_) #[true, true, true, true, true, true, true, true, true, true, true, true, true, true, true, true, true, true, true, true, true, true, true] rfl rfl (by kernel_rfl) (fun _ _ _ h => h) (Or.inl ⟨by rfl, ?_⟩) ?_ ?_
                        rotate_left
                        · intro w'
                          go_simp
                          with_reducible rfl
                        rotate_left
                        · simp only [Act.put, List.setIfInBounds_toArray, List.set_cons_zero, List.set_cons_succ, i64_w, i32_w]
                          rfl
                        refine done_ (by kernel_rfl) ?_
                        have hb := HD.out
                        clear HD HC hHeld HQ
                        replace K2 := Aside0.mk (blk_below K2.out hb)
                        replace K3 := Aside0.mk (blk_below K3.out hb)
                        replace K5 := Aside0.mk (blk_below K5.out hb)
                        replace HZ := Aside0.mk (HZ.out.below hb)
                        replace HALL := Aside0.mk (Kd.C_below HALL.out hb)
                        replace HB := Aside0.mk (HB.out.trans (hb.mono HB.out.size))
                        clear hb
                        go_wp2_with fail
                        go_roundg (al.length - (i + 1))
                        case measure => omega
                        case rel => exact ⟨i + 1, z, C0, k0, C1, k1, by go_num, by omega, ⟨HH.out.stay HQA.out (fun h => h.2 HQK.out)⟩, ⟨⟨K2.out, K3.out, K5.out, HZ.out, HALL.out, HB.out⟩⟩⟩
                      ·
                        have tq : (q != k) = true := by simpa using hqk
                        have HGO := Aside0.mk (HH.out.go HQA.out hhas hqk)
                        refine start_ (n := 23) (S := fun w' => w'.cell? ⟨b5, 0, none⟩ = some (.slice C0 z.f0.length k0) ∧ w'.cell? ⟨b5, 1, none⟩ = some (.slice C1 z.f1.length k1) ∧ w'.cell? (ad.add i) = some (.int .i64 q)) (ds := [20]) #[false, false, false, false, false, false, false, false, false, false, false, false, false, false, false, false, false, false, false, false, false, false, false] (by kernel_rfl) rfl rfl (HC.out _ HD.out) (fun hHeld => ?_)
                        refine pure_ (i := 1) (N := some 109) (v := ?_) (a' := ?_) #[false, true, false, false, false, false, false, false, false, false, false, false, false, false, false, false, false, false, false, false, false, false, false] rfl rfl (by kernel_rfl) (fun _ _ _ h => h) (Or.inl ⟨by rfl, ?_⟩) ?_ ?_
                        rotate_left
                        · intro w'
                          go_simp
                          with_reducible rfl
                        rotate_left
                        · simp only [Act.put, List.setIfInBounds_toArray, List.set_cons_zero, List.set_cons_succ, i64_w, i32_w]
                          rfl
                        refine pure_ (i := 2) (N := some 110) (v := ?_) (a' := ?_) #[false, true, true, false, false, false, false, false, false, false, false, false, false, false, false, false, false, false, false, false, false, false, false] rfl rfl (by kernel_rfl) (fun _ _ _ h => h) (Or.inl ⟨by rfl, ?_⟩) ?_ ?_
                        rotate_left
                        · intro w'
                          go_simp
                          with_reducible rfl
                        rotate_left
                        · simp only [Act.put, List.setIfInBounds_toArray, List.set_cons_zero, List.set_cons_succ, i64_w, i32_w]
                          rfl
                        refine pure_ (i := 3) (N := some 111) (v := ?_) (a' := ?_) #[false, true, true, true, false, false, false, false, false, false, false, false, false, false, false, false, false, false, false, false, false, false, false] rfl rfl (by kernel_rfl) (fun _ _ _ h => h) (Or.inl ⟨by rfl, ?_⟩) ?_ ?_
                        rotate_left
                        · intro w'
                          go_simp
                          with_reducible rfl
                        rotate_left
                        · simp only [Act.put, List.setIfInBounds_toArray, List.set_cons_zero, List.set_cons_succ, i64_w, i32_w]
                          rfl
                        refine take_ (i := 0) (N := some 108) (v := ?_) (a' := ?_) #[true, true, true, true, false, false, false, false, false, false, false, false, false, false, false, false, false, false, false, false, false, false, false] rfl rfl (by kernel_rfl) (fun _ _ _ h => h) (Or.inl ⟨by rfl, ?_⟩) hHeld ?_ ?_
                        rotate_left
                        · rintro w' ⟨s0, s1, s2⟩
                          go_simp
                          with_reducible rfl
                        rotate_left
                        · simp only [Act.put, List.setIfInBounds_toArray, List.set_cons_zero, List.set_cons_succ, i64_w, i32_w]
                          rfl
                        refine take_ (i := 4) (N := some 112) (v := ?_) (a' := ?_) #[true, true, true, true, true, false, false, false, false, false, false, false, false, false, false, false, false, false, false, false, false, false, false] rfl rfl (by kernel_rfl) (fun _ _ _ h => h) (Or.inl ⟨by rfl, ?_⟩) hHeld ?_ ?_
                        rotate_left
                        · rintro w' ⟨s0, s1, s2⟩
                          go_simp
                          with_reducible rfl
                        rotate_left
                        · simp only [Act.put, List.setIfInBounds_toArray, List.set_cons_zero, List.set_cons_succ, i64_w, i32_w]
                          rfl
                        refine one_ (i := 5) (N := some 113) #[true, true, true, true, true, true, false, false, false, false, false, false, false, false, false, false, false, false, false, false, false, false, false] rfl rfl (by kernel_rfl) (by decide) (fun K hK => ?_)
                        refine goes_ Try.func58 (by kernel_rfl) rfl #[.agg #[.slice C0 z.f0.length k0, .slice C1 z.f1.length k1], .int .i64 q] (by rfl) rfl rfl (by (try simp only [List.map_toArray, List.map_cons, List.map_nil]); first | done | rfl) ?_
                        refine (hasit_calls C0 C1 k0 k1 z q wr.drew (HZ.out.below HD.out) (by omega) (by omega)).mono ?_
                        rintro e w17 ⟨rfl, hb⟩
                        rw [decide_eq_true hhas]
                        refine ⟨_, rfl, ?_⟩
                        replace HD := Aside0.mk (HD.out.trans (hb.mono HD.out.size))
                        clear hb
                        refine hK.out _ _ (HC.out _ HD.out) (fun hHeld => ?_)
                        clear hK K
                        refine norm_ (a' := ?_) ?_ ?_
                        rotate_left
                        · show Act.put _ (some 113) _ = _
                          simp only [Act.put, List.setIfInBounds_toArray, List.set_cons_zero, List.set_cons_succ, i64_w, i32_w]
                          rfl
                        refine pure_ (i := 6) (N := some 114) (v := ?_) (a' := ?_) #[true, true, true, true, true, true, true, false, false, false, false, false, false, false, false, false, false, false, false, false, false, false, false] rfl rfl (by kernel_rfl) (fun _ _ _ h => h) (Or.inl ⟨by rfl, ?_⟩) ?_ ?_
                        rotate_left
                        · intro w'
                          go_simp
                          with_reducible rfl
                        rotate_left
                        · simp only [Act.put, List.setIfInBounds_toArray, List.set_cons_zero, List.set_cons_succ, i64_w, i32_w]
                          rfl
                        refine pure_ (i := 7) (N := some 115) (v := ?_) (a' := ?_) #[true, true, true, true, true, true, true, true, false, false, false, false, false, false, false, false, false, false, false, false, false, false, false] rfl rfl (by kernel_rfl) (fun _ _ _ h => h) (Or.inl ⟨by rfl, ?_⟩) ?_ ?_
                        rotate_left
                        · intro w'
                          go_simp
                          with_reducible rfl
                        rotate_left
                        · simp only [Act.put, List.setIfInBounds_toArray, List.set_cons_zero, List.set_cons_succ, i64_w, i32_w]
                          rfl
                        refine pure_ (i := 8) (N := some 116) (v := ?_) (a' := ?_) #[true, true, true, true, true, true, true, true, true, false, false, false, false, false, false, false, false, false, false, false, false, false, false] rfl rfl (by kernel_rfl) (fun _ _ _ h => h) (Or.inl ⟨by rfl, ?_⟩) ?_ ?_
                        rotate_left
                        · intro w'
                          go_simp
                          with_reducible rfl
                        rotate_left
                        · simp only [Act.put, List.setIfInBounds_toArray, List.set_cons_zero, List.set_cons_succ, i64_w, i32_w]
                          rfl
                        refine pure_ (i := 9) (N := some 117) (v := ?_) (a' := ?_) #[true, true, true, true, true, true, true, true, true, true, false, false, false, false, false, false, false, false, false, false, false, false, false] rfl rfl (by kernel_rfl) (fun _ _ _ h => h) (Or.inl ⟨by rfl, ?_⟩) ?_ ?_
                        rotate_left
                        · intro w'
                          go_simp
                          with_reducible rfl
                        rotate_left
                        · simp only [Act.put, List.setIfInBounds_toArray, List.set_cons_zero, List.set_cons_succ, i64_w, i32_w]
                          rfl
                        refine pure_ (i := 11) (N := some 119) (v := ?_) (a' := ?_) #[true, true, true, true, true, true, true, true, true, true, false, true, false, false, false, false, false, false, false, false, false, false, false] rfl rfl (by kernel_rfl) (fun _ _ _ h => h) (Or.inl ⟨by rfl, ?_⟩) ?_ ?_
                        rotate_left
                        · intro w'
                          go_simp
                          with_reducible rfl
                        rotate_left
                        · simp only [Act.put, List.setIfInBounds_toArray, List.set_cons_zero, List.set_cons_succ, i64_w, i32_w]
                          rfl
                        refine take_ (i := 10) (N := some 118) (v := ?_) (a' := ?_) #[true, true, true, true, true, true, true, true, true, true, true, true, false, false, false, false, false, false, false, false, false, false, false] rfl rfl (by kernel_rfl) (fun _ _ _ h => h) (Or.inl ⟨by rfl, ?_⟩) hHeld ?_ ?_
                        rotate_left
                        · rintro w' ⟨s0, s1, s2⟩
                          go_simp
                          with_reducible rfl
                        rotate_left
                        · simp only [Act.put, List.setIfInBounds_toArray, List.set_cons_zero, List.set_cons_succ, i64_w, i32_w]
                          rfl
                        refine pure_ (i := 12) (N := some 120) (v := ?_) (a' := ?_) #[true, true, true, true, true, true, true, true, true, true, true, true, true, false, false, false, false, false, false, false, false, false, false] rfl rfl (by kernel_rfl) (fun _ _ _ h => h) (Or.inl ⟨by rfl, ?_⟩) ?_ ?_
                        rotate_left
                        · intro w'
                          go_simp
                          with_reducible rfl
                        rotate_left
                        · simp only [Act.put, List.setIfInBounds_toArray, List.set_cons_zero, List.set_cons_succ, i64_w, i32_w]
                          rfl
                        refine pure_ (i := 13) (N := some 121) (v := ?_) (a' := ?_) #[true, true, true, true, true, true, true, true, true, true, true, true, true, true, false, false, false, false, false, false, false, false, false] rfl rfl (by kernel_rfl) (fun _ _ _ h => h) (Or.inl ⟨by rfl, ?_⟩) ?_ ?_
                        rotate_left
                        · intro w'
                          go_simp
                          with_reducible rfl
                        rotate_left
                        · simp only [Act.put, List.setIfInBounds_toArray, List.set_cons_zero, List.set_cons_succ, i64_w, i32_w]
                          rfl
                        refine pure_ (i := 14) (N := some 122) (v := ?_) (a' := ?_) #[true, true, true, true, true, true, true, true, true, true, true, true, true, true, true, false, false, false, false, false, false, false, false] rfl rfl (by kernel_rfl) (fun _ _ _ h => h) (Or.inl ⟨by rfl, ?_⟩) ?_ ?_
                        rotate_left
                        · intro w'
                          go_simp
                          with_reducible rfl
                        rotate_left
                        · simp only [Act.put, List.setIfInBounds_toArray, List.set_cons_zero, List.set_cons_succ, i64_w, i32_w]
                          rfl
                        refine pure_ (i := 15) (N := some 123) (v := ?_) (a' := ?_) #[true, true, true, true, true, true, true, true, true, true, true, true, true, true, true, true, false, false, false, false, false, false, false] rfl rfl (by kernel_rfl) (fun _ _ _ h => h) (Or.inl ⟨by rfl, ?_⟩) ?_ ?_
                        rotate_left
                        · intro w'
                          go_simp
                          with_reducible rfl
                        rotate_left
                        · simp only [Act.put, List.setIfInBounds_toArray, List.set_cons_zero, List.set_cons_succ, i64_w, i32_w]
                          rfl
                        refine pure_ (i := 16) (N := some 124) (v := ?_) (a' := ?_) #[true, true, true, true, true, true, true, true, true, true, true, true, true, true, true, true, true, false, false, false, false, false, false] rfl rfl (by kernel_rfl) (fun _ _ _ h => h) (Or.inl ⟨by rfl, ?_⟩) ?_ ?_
                        rotate_left
                        · intro w'
                          go_simp
                          with_reducible rfl
                        rotate_left
                        · simp only [Act.put, List.setIfInBounds_toArray, List.set_cons_zero, List.set_cons_succ, i64_w, i32_w]
                          rfl
                        refine pure_ (i := 17) (N := some 125) (v := ?_) (a' := ?_) #[true, true, true, true, true, true, true, true, true, true, true, true, true, true, true, true, true, true, false, false, false, false, false] rfl rfl (by kernel_rfl) (fun _ _ _ h => h) (Or.inl ⟨by rfl, ?_⟩) ?_ ?_
                        rotate_left
                        · intro w'
                          go_simp
                          with_reducible rfl
                        rotate_left
                        · simp only [Act.put, List.setIfInBounds_toArray, List.set_cons_zero, List.set_cons_succ, i64_w, i32_w]
                          rfl
                        refine pure_ (i := 18) (N := some 126) (v := ?_) (a' := ?_) #[true, true, true, true, true, true, true, true, true, true, true, true, true, true, true, true, true, true, true, false, false, false, false] rfl rfl (by kernel_rfl) (fun _ _ _ h => h) (Or.inl ⟨by rfl, ?_⟩) ?_ ?_
                        rotate_left
                        · intro w'
                          go_simp
                          with_reducible rfl
                        rotate_left
                        · simp only [Act.put, List.setIfInBounds_toArray, List.set_cons_zero, List.set_cons_succ, i64_w, i32_w]
                          rfl
                        refine take_ (i := 19) (N := some 127) (v := ?_) (a' := ?_) #[true, true, true, true, true, true, true, true, true, true, true, true, true, true, true, true, true, true, true, true, false, false, false] rfl rfl (by kernel_rfl) (fun _ _ _ h => h) (Or.inl ⟨by rfl, ?_⟩) hHeld ?_ ?_
                        rotate_left
                        · rintro w' ⟨s0, s1, s2⟩
                          go_simp
                          with_reducible rfl
                        rotate_left
                        · simp only [Act.put, List.setIfInBounds_toArray, List.set_cons_zero, List.set_cons_succ, i64_w, i32_w]
                          rfl
                        refine last_ (i := 20) (N := some 128) #[true, true, true, true, true, true, true, true, true, true, true, true, true, true, true, true, true, true, true, true, true, false, false] rfl rfl (by kernel_rfl) (by decide) (fun K hK => ?_)
                        refine call_ 63 #[.int .i64 3, .int .i64 q, .pointer (some ⟨b5, 0, none⟩)] (by rfl) rfl (by
                          have hen := enters_ Try.func63 (by kernel_rfl) rfl #[.int .i64 3, .int .i64 q, .pointer (some ⟨b5, 0, none⟩)] w17
                          unfold execOp
                          simp [resolve, Deferred.ofValue, invoke, Act.eval, hen]) ?_
                        have hbd := HD.out
                        replace HALL := Aside0.mk (Kd.C_below HALL.out hbd)
                        replace HZ := Aside0.mk (HZ.out.below hbd)
                        replace K2 := Aside0.mk (blk_below K2.out hbd)
                        replace K3 := Aside0.mk (blk_below K3.out hbd)
                        replace K5 := Aside0.mk (blk_below K5.out hbd)
                        replace HB := Aside0.mk (HB.out.trans (hbd.mono HB.out.size))
                        clear hbd HD HC HQ
                        refine (step_calls b5 C0 C1 k0 k1 z 3 q w17 K5.out HZ.out HH.out.rt HGO.out.1).mono ?_
                        rintro e w18 ⟨rfl, hf, C0', k0', C1', k1', hk5, hz⟩
                        replace HALL := Aside0.mk (C_keep HALL.out K5.out hf)
                        replace K2 := Aside0.mk (hf.blk K2.out HN5.out.1)
                        replace K3 := Aside0.mk (hf.blk K3.out HN5.out.2)
                        replace K5 := Aside0.mk hk5
                        replace HZ := Aside0.mk hz
                        replace HB := Aside0.mk (HB.out.trans (hf.to_below HG5.out HB.out.size))
                        clear hf hk5 hz
                        refine ⟨_, rfl, ?_⟩
                        refine hK.out _ _ ?_
                        clear hK K
                        refine norm_ (a' := ?_) ?_ ?_
                        rotate_left
                        · show Act.put _ (some 128) _ = _
                          simp only [Act.put, List.setIfInBounds_toArray, List.set_cons_zero, List.set_cons_succ, i64_w, i32_w]
                          rfl
                        refine pure_ (i := 21) (N := some 129) (v := ?_) (a' := ?_) #[true, true, true, true, true, true, true, true, true, true, true, true, true, true, true, true, true, true, true, true, true, true, false] rfl rfl (by kernel_rfl) (fun _ _ _ h => h) (Or.inl ⟨by rfl, ?_⟩) ?_ ?_
                        rotate_left
                        · intro w'
                          go_simp
                          with_reducible rfl
                        rotate_left
                        · simp only [Act.put, List.setIfInBounds_toArray, List.set_cons_zero, List.set_cons_succ, i64_w, i32_w]
                          rfl
                        refine pure_ (i := 22) (N := some 130) (v := ?_) (a' := ?_) #[true, true, true, true, true, true, true, true, true, true, true, true, true, true, true, true, true, true, true, true, true, true, true] rfl rfl (by kernel_rfl) (fun _ _ _ h => h) (Or.inl ⟨by rfl, ?_⟩) ?_ ?_
                        rotate_left
                        · intro w'
                          go_simp
                          with_reducible rfl
                        rotate_left
                        · simp only [Act.put, List.setIfInBounds_toArray, List.set_cons_zero, List.set_cons_succ, i64_w, i32_w]
                          rfl
                        refine done_ (by kernel_rfl) ?_
                        clear hHeld
                        go_wp2_with fail
                        go_roundg (al.length - (i + 1))
                        case measure => omega
                        case rel => exact ⟨i + 1, nextC z 3 q, C0', k0', C1', k1', by go_num, by omega, ⟨HGO.out.2⟩, ⟨⟨K2.out, K3.out, K5.out, HZ.out, HALL.out, HB.out⟩⟩⟩
                    ·
                      refine start_ (n := 23) (S := fun w' => w'.cell? ⟨b5, 0, none⟩ = some (.slice C0 z.f0.length k0) ∧ w'.cell? ⟨b5, 1, none⟩ = some (.slice C1 z.f1.length k1) ∧ w'.cell? (ad.add i) = some (.int .i64 q)) (ds := []) #[false, false, false, false, false, false, false, false, false, false, false, false, false, false, false, false, false, false, false, false, false, false, false] (by kernel_rfl) rfl rfl (HC.out _ HD.out) (fun hHeld => ?_)
                      refine pure_ (i := 1) (N := some 109) (v := ?_) (a' := ?_) #[false, true, false, false, false, false, false, false, false, false, false, false, false, false, false, false, false, false, false, false, false, false, false] rfl rfl (by kernel_rfl) (fun _ _ _ h => h) (Or.inl ⟨by rfl, ?_⟩) ?_ ?_
                      rotate_left
                      · intro w'
                        go_simp
                        with_reducible rfl
                      rotate_left
                      · simp only [Act.put, List.setIfInBounds_toArray, List.set_cons_zero, List.set_cons_succ, i64_w, i32_w]
                        rfl
                      refine pure_ (i := 2) (N := some 110) (v := ?_) (a' := ?_) #[false, true, true, false, false, false, false, false, false, false, false, false, false, false, false, false, false, false, false, false, false, false, false] rfl rfl (by kernel_rfl) (fun _ _ _ h => h) (Or.inl ⟨by rfl, ?_⟩) ?_ ?_
                      rotate_left
                      · intro w'
                        go_simp
                        with_reducible rfl
                      rotate_left
                      · simp only [Act.put, List.setIfInBounds_toArray, List.set_cons_zero, List.set_cons_succ, i64_w, i32_w]
                        rfl
                      refine pure_ (i := 3) (N := some 111) (v := ?_) (a' := ?_) #[false, true, true, true, false, false, false, false, false, false, false, false, false, false, false, false, false, false, false, false, false, false, false] rfl rfl (by kernel_rfl) (fun _ _ _ h => h) (Or.inl ⟨by rfl, ?_⟩) ?_ ?_
                      rotate_left
                      · intro w'
                        go_simp
                        with_reducible rfl
                      rotate_left
                      · simp only [Act.put, List.setIfInBounds_toArray, List.set_cons_zero, List.set_cons_succ, i64_w, i32_w]
                        rfl
                      refine take_ (i := 0) (N := some 108) (v := ?_) (a' := ?_) #[true, true, true, true, false, false, false, false, false, false, false, false, false, false, false, false, false, false, false, false, false, false, false] rfl rfl (by kernel_rfl) (fun _ _ _ h => h) (Or.inl ⟨by rfl, ?_⟩) hHeld ?_ ?_
                      rotate_left
                      · rintro w' ⟨s0, s1, s2⟩
                        go_simp
                        with_reducible rfl
                      rotate_left
                      · simp only [Act.put, List.setIfInBounds_toArray, List.set_cons_zero, List.set_cons_succ, i64_w, i32_w]
                        rfl
                      refine take_ (i := 4) (N := some 112) (v := ?_) (a' := ?_) #[true, true, true, true, true, false, false, false, false, false, false, false, false, false, false, false, false, false, false, false, false, false, false] rfl rfl (by kernel_rfl) (fun _ _ _ h => h) (Or.inl ⟨by rfl, ?_⟩) hHeld ?_ ?_
                      rotate_left
                      · rintro w' ⟨s0, s1, s2⟩
                        go_simp
                        with_reducible rfl
                      rotate_left
                      · simp only [Act.put, List.setIfInBounds_toArray, List.set_cons_zero, List.set_cons_succ, i64_w, i32_w]
                        rfl
                      refine one_ (i := 5) (N := some 113) #[true, true, true, true, true, true, false, false, false, false, false, false, false, false, false, false, false, false, false, false, false, false, false] rfl rfl (by kernel_rfl) (by decide) (fun K hK => ?_)
                      refine goes_ Try.func58 (by kernel_rfl) rfl #[.agg #[.slice C0 z.f0.length k0, .slice C1 z.f1.length k1], .int .i64 q] (by rfl) rfl rfl (by (try simp only [List.map_toArray, List.map_cons, List.map_nil]); first | done | rfl) ?_
                      refine (hasit_calls C0 C1 k0 k1 z q wr.drew (HZ.out.below HD.out) (by omega) (by omega)).mono ?_
                      rintro e w17 ⟨rfl, hb⟩
                      rw [decide_eq_false hhas]
                      refine ⟨_, rfl, ?_⟩
                      replace HD := Aside0.mk (HD.out.trans (hb.mono HD.out.size))
                      clear hb
                      refine hK.out _ _ (HC.out _ HD.out) (fun hHeld => ?_)
                      clear hK K
                      refine norm_ (a' := ?_) ?_ ?_
                      rotate_left
                      · show Act.put _ (some 113) _ = _
                        simp only [Act.put, List.setIfInBounds_toArray, List.set_cons_zero, List.set_cons_succ, i64_w, i32_w]
                        rfl
                      refine pure_ (i := 6) (N := some 114) (v := ?_) (a' := ?_) #[true, true, true, true, true, true, true, false, false, false, false, false, false, false, false, false, false, false, false, false, false, false, false] rfl rfl (by kernel_rfl) (fun _ _ _ h => h) (Or.inl ⟨by rfl, ?_⟩) ?_ ?_
                      rotate_left
                      · intro w'
                        go_simp
                        with_reducible rfl
                      rotate_left
                      · simp only [Act.put, List.setIfInBounds_toArray, List.set_cons_zero, List.set_cons_succ, i64_w, i32_w]
                        rfl
                      refine pure_ (i := 7) (N := some 115) (v := undef) (a' := ?_) #[true, true, true, true, true, true, true, true, false, false, false, false, false, false, false, false, false, false, false, false, false, false, false] rfl rfl (by kernel_rfl) (fun _ _ _ h => h) (Or.inr ⟨by rfl, rfl⟩) ?_ ?_
                      rotate_left
                      · simp only [Act.put, List.setIfInBounds_toArray, List.set_cons_zero, List.set_cons_succ, i64_w, i32_w]
                        rfl
                      refine pure_ (i := 8) (N := some 116) (v := undef) (a' := ?_) #[true, true, true, true, true, true, true, true, true, false, false, false, false, false, false, false, false, false, false, false, false, false, false] rfl rfl (by kernel_rfl) (fun _ _ _ h => h) (Or.inr ⟨by rfl, rfl⟩) ?_ ?_
                      rotate_left
                      · simp only [Act.put, List.setIfInBounds_toArray, List.set_cons_zero, List.set_cons_succ, i64_w, i32_w]
                        rfl
                      refine pure_ (i := 9) (N := some 117) (v := undef) (a' := ?_) #[true, true, true, true, true, true, true, true, true, true, false, false, false, false, false, false, false, false, false, false, false, false, false] rfl rfl (by kernel_rfl) (fun _ _ _ h => h) (Or.inr ⟨by rfl, rfl⟩) ?_ ?_
                      rotate_left
                      · simp only [Act.put, List.setIfInBounds_toArray, List.set_cons_zero, List.set_cons_succ, i64_w, i32_w]
                        rfl
                      refine pure_ (i := 10) (N := some 118) (v := undef) (a' := ?_) #[true, true, true, true, true, true, true, true, true, true, true, false, false, false, false, false, false, false, false, false, false, false, false] rfl rfl (by kernel_rfl) (fun _ _ _ h => h) (Or.inr ⟨by rfl, rfl⟩) ?_ ?_
                      rotate_left
                      · simp only [Act.put, List.setIfInBounds_toArray, List.set_cons_zero, List.set_cons_succ, i64_w, i32_w]
                        rfl
                      refine pure_ (i := 11) (N := some 119) (v := undef) (a' := ?_) #[true, true, true, true, true, true, true, true, true, true, true, true, false, false, false, false, false, false, false, false, false, false, false] rfl rfl (by kernel_rfl) (fun _ _ _ h => h) (Or.inr ⟨by rfl, rfl⟩) ?_ ?_
                      rotate_left
                      · simp only [Act.put, List.setIfInBounds_toArray, List.set_cons_zero, List.set_cons_succ, i64_w, i32_w]
                        rfl
                      refine pure_ (i := 12) (N := some 120) (v := undef) (a' := ?_) #[true, true, true, true, true, true, true, true, true, true, true, true, true, false, false, false, false, false, false, false, false, false, false] rfl rfl (by kernel_rfl) (fun _ _ _ h => h) (Or.inr ⟨by rfl, rfl⟩) ?_ ?_
                      rotate_left
                      · simp only [Act.put, List.setIfInBounds_toArray, List.set_cons_zero, List.set_cons_succ, i64_w, i32_w]
                        rfl
                      refine pure_ (i := 13) (N := some 121) (v := ?_) (a' := ?_) #[true, true, true, true, true, true, true, true, true, true, true, true, true, true, false, false, false, false, false, false, false, false, false] rfl rfl (by kernel_rfl) (fun _ _ _ h => h) (Or.inl ⟨by rfl, ?_⟩) ?_ ?_
                      rotate_left
                      · intro w'
                        go_simp
                        with_reducible rfl
                      rotate_left
                      · simp only [Act.put, List.setIfInBounds_toArray, List.set_cons_zero, List.set_cons_succ, i64_w, i32_w]
                        rfl
                      refine pure_ (i := 14) (N := some 122) (v := ?_) (a' := ?_) #[true, true, true, true, true, true, true, true, true, true, true, true, true, true, true, false, false, false, false, false, false, false, false] rfl rfl (by kernel_rfl) (fun _ _ _ h => h) (Or.inl ⟨by rfl, ?_⟩) ?_ ?_
                      rotate_left
                      · intro w'
                        go_simp
                        with_reducible rfl
                      rotate_left
                      · simp only [Act.put, List.setIfInBounds_toArray, List.set_cons_zero, List.set_cons_succ, i64_w, i32_w]
                        rfl
                      refine pure_ (i := 15) (N := some 123) (v := undef) (a' := ?_) #[true, true, true, true, true, true, true, true, true, true, true, true, true, true, true, true, false, false, false, false, false, false, false] rfl rfl (by kernel_rfl) (fun _ _ _ h => h) (Or.inr ⟨by rfl, rfl⟩) ?_ ?_
                      rotate_left
                      · simp only [Act.put, List.setIfInBounds_toArray, List.set_cons_zero, List.set_cons_succ, i64_w, i32_w]
                        rfl
                      refine pure_ (i := 16) (N := some 124) (v := undef) (a' := ?_) #[true, true, true, true, true, true, true, true, true, true, true, true, true, true, true, true, true, false, false, false, false, false, false] rfl rfl (by kernel_rfl) (fun _ _ _ h => h) (Or.inr ⟨by rfl, rfl⟩) ?_ ?_
                      rotate_left
                      · simp only [Act.put, List.setIfInBounds_toArray, List.set_cons_zero, List.set_cons_succ, i64_w, i32_w]
                        rfl
                      refine pure_ (i := 17) (N := some 125) (v := undef) (a' := ?_) #[true, true, true, true, true, true, true, true, true, true, true, true, true, true, true, true, true, true, false, false, false, false, false] rfl rfl (by kernel_rfl) (fun _ _ _ h => h) (Or.inr ⟨by rfl, rfl⟩) ?_ ?_
                      rotate_left
                      · simp only [Act.put, List.setIfInBounds_toArray, List.set_cons_zero, List.set_cons_succ, i64_w, i32_w]
                        rfl
                      refine pure_ (i := 18) (N := some 126) (v := undef) (a' := ?_) #[true, true, true, true, true, true, true, true, true, true, true, true, true, true, true, true, true, true, true, false, false, false, false] rfl rfl (by kernel_rfl) (fun _ _ _ h => h) (Or.inr ⟨by rfl, rfl⟩) ?_ ?_
                      rotate_left
                      · simp only [Act.put, List.setIfInBounds_toArray, List.set_cons_zero, List.set_cons_succ, i64_w, i32_w]
                        rfl
                      refine pure_ (i := 19) (N := some 127) (v := undef) (a' := ?_) #[true, true, true, true, true, true, true, true, true, true, true, true, true, true, true, true, true, true, true, true, false, false, false] rfl rfl (by kernel_rfl) (fun _ _ _ h => h) (Or.inr ⟨by rfl, rfl⟩) ?_ ?_
                      rotate_left
                      · simp only [Act.put, List.setIfInBounds_toArray, List.set_cons_zero, List.set_cons_succ, i64_w, i32_w]
                        rfl
                      refine pure_ (i := 20) (N := some 128) (v := undef) (a' := ?_) #[true, true, true, true, true, true, true, true, true, true, true, true, true, true, true, true, true, true, true, true, true, false, false] rfl rfl (by kernel_rfl) (fun _ _ _ h => h) (Or.inr ⟨by rfl, rfl⟩) ?_ ?_
                      rotate_left
                      · simp only [Act.put, List.setIfInBounds_toArray, List.set_cons_zero, List.set_cons_succ, i64_w, i32_w]
                        rfl
                      refine pure_ (i := 21) (N := some 129) (v := undef) (a' := ?_) #[true, true, true, true, true, true, true, true, true, true, true, true, true, true, true, true, true, true, true, true, true, true, false] rfl rfl (by kernel_rfl) (fun _ _ _ h => h) (Or.inr ⟨by rfl, rfl⟩) ?_ ?_
                      rotate_left
                      · simp only [Act.put, List.setIfInBounds_toArray, List.set_cons_zero, List.set_cons_succ, i64_w, i32_w]
                        rfl
                      refine pure_ (i := 22) (N := some 130) (v := ?_) (a' := ?_) #[true, true, true, true, true, true, true, true, true, true, true, true, true, true, true, true, true, true, true, true, true, true, true] rfl rfl (by kernel_rfl) (fun _ _ _ h => h) (Or.inl ⟨by rfl, ?_⟩) ?_ ?_
                      rotate_left
                      · intro w'
                        go_simp
                        with_reducible rfl
                      rotate_left
                      · simp only [Act.put, List.setIfInBounds_toArray, List.set_cons_zero, List.set_cons_succ, i64_w, i32_w]
                        rfl
                      refine done_ (by kernel_rfl) ?_
                      have hb := HD.out
                      clear HD HC hHeld HQ
                      replace K2 := Aside0.mk (blk_below K2.out hb)
                      replace K3 := Aside0.mk (blk_below K3.out hb)
                      replace K5 := Aside0.mk (blk_below K5.out hb)
                      replace HZ := Aside0.mk (HZ.out.below hb)
                      replace HALL := Aside0.mk (Kd.C_below HALL.out hb)
                      replace HB := Aside0.mk (HB.out.trans (hb.mono HB.out.size))
                      clear hb
                      go_wp2_with fail
                      go_roundg (al.length - (i + 1))
                      case measure => omega
                      case rel => exact ⟨i + 1, z, C0, k0, C1, k1, by go_num, by omega, ⟨HH.out.stay HQA.out (fun h => hhas h.1)⟩, ⟨⟨K2.out, K3.out, K5.out, HZ.out, HALL.out, HB.out⟩⟩⟩
                  ·
                    have hze := HH.out.end_ (by rw [HAL.out]; omega)
                    subst hze
                    have hyt : y.f0.take (max 0 1) = [k] := by
                      have h := HKY.out
                      rcases hy : y.f0 with _ | ⟨a, l⟩
                      · rw [hy] at h; cases h
                      · rw [hy] at h; simp at h; subst h; simp
                    have HT0 := Aside0.mk hyt
                    clear hyt HH hlz
                    have K3c0 := (blk_cell K3.out 0).trans (show _ = some (.slice B0 y.f0.length d0) from rfl)
                    have K3c1 := (blk_cell K3.out 1).trans (show _ = some (.slice B1 y.f1.length d1) from rfl)
                    go_wp2_with fail
                    clear K3c0 K3c1
                    go_loopg [11] y.f0.length (fun kq v11 wr => ∃ (i : Nat) (C0 : Option Addr) (k0 : Nat) (C1 : Option Addr) (k1 : Nat), v11 = .int .i64 i ∧ i + kq = y.f0.length ∧ Aside0 (St x y w wr b2 b3 b5 A0 A1 B0 B1 c0 c1 d0 d1 AA al (⟨y.f0.take (max i 1), []⟩ : S67) C0 k0 C1 k1))
                    case atStart => exact ⟨0, C0, k0, C1, k1, rfl, by omega, ⟨by rw [HT0.out]; exact ⟨K2.out, K3.out, K5.out, HZ.out, HALL.out, HB.out⟩⟩⟩
                    case round =>
                      clear K2 K3 K5 HALL HB HZ
                      obtain ⟨i2, C0, k0, C1, k1, rfl, hi2, HS⟩ := hrel
                      have K2 := Aside0.mk HS.out.1
                      have K3 := Aside0.mk HS.out.2.1
                      have K5 := Aside0.mk HS.out.2.2.1
                      have HZ := Aside0.mk HS.out.2.2.2.1
                      have HALL := Aside0.mk HS.out.2.2.2.2.1
                      have HB := Aside0.mk HS.out.2.2.2.2.2
                      clear HS
                      by_cases hlt2 : i2 < y.f0.length
                      ·
                        have hlt2' : (i2 : Int) < (y.f0.length : Int) := by omega
                        obtain ⟨q, hq⟩ : ∃ q, y.f0[i2]? = some q := ⟨_, List.getElem?_eq_getElem hlt2⟩
                        obtain ⟨ad, ea, hcell⟩ := row_at HY.out.g0 hq
                        have HQ := Aside0.mk hcell
                        have hqc := HQ.out _ HB.out
                        have HQY := Aside0.mk hq
                        have HEA := Aside0.mk ea
                        clear hcell hq ea
                        by_cases hi0 : i2 = 0
                        ·
                          subst hi0
                          have hqk : q = k := by have h := HQY.out; rw [HKY.out] at h; exact (Option.some.inj h).symm
                          have tq : (q != k) = false := by simp [hqk]
                          clear hqk
                          rw [ad_zero] at hqc
                          have K3c0 := (blk_cell K3.out 0).trans (show _ = some (.slice B0 y.f0.length d0) from rfl)
                          have K3c1 := (blk_cell K3.out 1).trans (show _ = some (.slice B1 y.f1.length d1) from rfl)
                          rw [HEA.out] at K3c0
                          go_wp2_with fail
                          go_roundg (y.f0.length - (0 + 1))
                          case measure => omega
                          case rel => exact ⟨0 + 1, C0, k0, C1, k1, by go_num, by omega, ⟨⟨K2.out, K3.out, K5.out, HZ.out, HALL.out, HB.out⟩⟩⟩
                        ·
                          have hm2 : max i2 1 = i2 := by omega
                          rw [hm2] at K5 HZ
                          obtain ⟨v1, v2, v3, v4⟩ := voter HRY.out hlt2
                          have hqe : y.f0[i2] = q := by have h := HQY.out; rw [List.getElem?_eq_getElem hlt2] at h; exact Option.some.inj h
                          have hp2 := HRY.out.part1 (by omega) hlt2
                          rw [hqe] at v1 v2 v3 v4 hp2
                          have HV := Aside0.mk (And.intro v1 (And.intro v2 (And.intro v3 v4)))
                          have HP1 := Aside0.mk (HRY.out.part (i := i2) (by omega))
                          have HP2 := Aside0.mk hp2
                          have hqk : q ≠ k := by
                            intro e
                            have h0 : y.f0[0] = k := by have h := HKY.out; rw [List.getElem?_eq_getElem hny] at h; exact Option.some.inj h
                            have := List.pairwise_iff_getElem.1 HRY.out.r0.up 0 i2 hny hlt2 (by omega)
                            omega
                          have tq : (q != k) = true := by simpa using hqk
                          clear v1 v2 v3 v4 hqe hp2 hqk hm2 hi0
                          have K3c0 := (blk_cell K3.out 0).trans (show _ = some (.slice B0 y.f0.length d0) from rfl)
                          have K3c1 := (blk_cell K3.out 1).trans (show _ = some (.slice B1 y.f1.length d1) from rfl)
                          rw [HEA.out] at K3c0
                          go_wp2_with fail
                          refine (step_calls b5 C0 C1 k0 k1 ⟨y.f0.take i2, []⟩ 1 q wr K5.out HZ.out HP1.out HV.out.1).mono ?_
                          rintro e w19 ⟨rfl, hf, C0', k0', C1', k1', hk5, hz⟩
                          rw [HV.out.2.1] at hk5 hz
                          clear K3c0 K3c1
                          replace HALL := Aside0.mk (C_keep HALL.out K5.out hf)
                          replace K2 := Aside0.mk (hf.blk K2.out HN5.out.1)
                          replace K3 := Aside0.mk (hf.blk K3.out HN5.out.2)
                          replace HB := Aside0.mk (HB.out.trans (hf.to_below HG5.out HB.out.size))
                          replace K5 := Aside0.mk hk5
                          replace HZ := Aside0.mk hz
                          clear hf hk5 hz
                          clear hqc
                          have hqc := HQ.out _ HB.out
                          have K3c0 := (blk_cell K3.out 0).trans (show _ = some (.slice B0 y.f0.length d0) from rfl)
                          have K3c1 := (blk_cell K3.out 1).trans (show _ = some (.slice B1 y.f1.length d1) from rfl)
                          rw [HEA.out] at K3c0
                          go_wp2_with fail
                          refine (step_calls b5 C0' C1' k0' k1' ⟨y.f0.take i2, [q]⟩ 2 q w19 K5.out HZ.out HP2.out HV.out.2.2.1).mono ?_
                          rintro e w20 ⟨rfl, hf, C0'', k0'', C1'', k1'', hk5, hz⟩
                          rw [HV.out.2.2.2] at hk5 hz
                          clear K3c0 K3c1
                          replace HALL := Aside0.mk (C_keep HALL.out K5.out hf)
                          replace K2 := Aside0.mk (hf.blk K2.out HN5.out.1)
                          replace K3 := Aside0.mk (hf.blk K3.out HN5.out.2)
                          replace HB := Aside0.mk (HB.out.trans (hf.to_below HG5.out HB.out.size))
                          replace K5 := Aside0.mk hk5
                          replace HZ := Aside0.mk hz
                          clear hf hk5 hz
                          clear hqc
                          go_wp2_with fail
                          have hm3 : max (i2 + 1) 1 = i2 + 1 := by omega
                          go_roundg (y.f0.length - (i2 + 1))
                          case measure => omega
                          case rel => exact ⟨i2 + 1, C0'', k0'', C1'', k1'', by go_num, by omega, ⟨by rw [hm3]; exact ⟨K2.out, K3.out, K5.out, HZ.out, HALL.out, HB.out⟩⟩⟩
                      ·
                        have hm2 : y.f0.take (max i2 1) = y.f0 := List.take_of_length_le (by omega)
                        rw [hm2] at K5 HZ
                        have ht0 : y.f1.take 0 = [] := List.take_zero
                        clear hm2
                        have K3c0 := (blk_cell K3.out 0).trans (show _ = some (.slice B0 y.f0.length d0) from rfl)
                        have K3c1 := (blk_cell K3.out 1).trans (show _ = some (.slice B1 y.f1.length d1) from rfl)
                        go_wp2_with fail
                        clear K3c0 K3c1
                        go_loopg [12] y.f1.length (fun kq v12 wr => ∃ (i : Nat) (C0 : Option Addr) (k0 : Nat) (C1 : Option Addr) (k1 : Nat), v12 = .int .i64 i ∧ i + kq = y.f1.length ∧ Aside0 (St x y w wr b2 b3 b5 A0 A1 B0 B1 c0 c1 d0 d1 AA al (⟨y.f0, y.f1.take i⟩ : S67) C0 k0 C1 k1))
                        case atStart => exact ⟨0, C0, k0, C1, k1, rfl, by omega, ⟨by rw [List.take_zero]; exact ⟨K2.out, K3.out, K5.out, HZ.out, HALL.out, HB.out⟩⟩⟩
                        case round =>
                          clear K2 K3 K5 HALL HB HZ ht0
                          obtain ⟨i3, C0, k0, C1, k1, rfl, hi3, HS⟩ := hrel
                          have K2 := Aside0.mk HS.out.1
                          have K3 := Aside0.mk HS.out.2.1
                          have K5 := Aside0.mk HS.out.2.2.1
                          have HZ := Aside0.mk HS.out.2.2.2.1
                          have HALL := Aside0.mk HS.out.2.2.2.2.1
                          have HB := Aside0.mk HS.out.2.2.2.2.2
                          clear HS
                          by_cases hlt3 : i3 < y.f1.length
                          ·
                            have hlt3' : (i3 : Int) < (y.f1.length : Int) := by omega
                            obtain ⟨q, hq⟩ : ∃ q, y.f1[i3]? = some q := ⟨_, List.getElem?_eq_getElem hlt3⟩
                            obtain ⟨ad, ea, hcell⟩ := row_at HY.out.g1 hq
                            have hqc := hcell _ HB.out
                            have hqe : y.f1[i3] = q := by rw [List.getElem?_eq_getElem hlt3] at hq; exact Option.some.inj hq
                            obtain ⟨v1, v2⟩ := learner HRY.out hlt3
                            rw [hqe] at v1 v2
                            have HV := Aside0.mk (And.intro v1 v2)
                            have HP1 := Aside0.mk (HRY.out.part2 i3)
                            have HEA := Aside0.mk ea
                            clear hcell hq ea v1 v2 hqe
                            have K3c0 := (blk_cell K3.out 0).trans (show _ = some (.slice B0 y.f0.length d0) from rfl)
                            have K3c1 := (blk_cell K3.out 1).trans (show _ = some (.slice B1 y.f1.length d1) from rfl)
                            rw [HEA.out] at K3c1
                            go_wp2_with fail
                            refine (step_calls b5 C0 C1 k0 k1 ⟨y.f0, y.f1.take i3⟩ 1 q wr K5.out HZ.out HP1.out HV.out.1).mono ?_
                            rintro e w19 ⟨rfl, hf, C0', k0', C1', k1', hk5, hz⟩
                            rw [HV.out.2] at hk5 hz
                            clear K3c0 K3c1
                            replace HALL := Aside0.mk (C_keep HALL.out K5.out hf)
                            replace K2 := Aside0.mk (hf.blk K2.out HN5.out.1)
                            replace K3 := Aside0.mk (hf.blk K3.out HN5.out.2)
                            replace HB := Aside0.mk (HB.out.trans (hf.to_below HG5.out HB.out.size))
                            replace K5 := Aside0.mk hk5
                            replace HZ := Aside0.mk hz
                            clear hf hk5 hz
                            clear hqc
                            go_wp2_with fail
                            go_roundg (y.f1.length - (i3 + 1))
                            case measure => omega
                            case rel => exact ⟨i3 + 1, C0', k0', C1', k1', by go_num, by omega, ⟨⟨K2.out, K3.out, K5.out, HZ.out, HALL.out, HB.out⟩⟩⟩
                          ·
                            have ht3 : y.f1.take i3 = y.f1 := List.take_of_length_le (by omega)
                            rw [ht3] at K5 HZ
                            clear ht3
                            have K3c0 := (blk_cell K3.out 0).trans (show _ = some (.slice B0 y.f0.length d0) from rfl)
                            have K3c1 := (blk_cell K3.out 1).trans (show _ = some (.slice B1 y.f1.length d1) from rfl)
                            have K5c0 := (blk_cell K5.out 0).trans (show _ = some (.slice C0 y.f0.length k0) from rfl)
                            have K5c1 := (blk_cell K5.out 1).trans (show _ = some (.slice C1 y.f1.length k1) from rfl)
                            go_wp2_with fail
                            refine (same_calls C0 C1 B0 B1 k0 k1 d0 d1 y y wr HZ.out (HY.out.below HB.out) (by omega) (by omega)).mono ?_
                            rintro e w21 ⟨rfl, hb⟩
                            rw [show decide (y.f0 = y.f0 ∧ y.f1 = y.f1) = true from by simp]
                            clear K3c0 K3c1 K5c0 K5c1
                            replace K2 := Aside0.mk (blk_below K2.out hb)
                            replace K3 := Aside0.mk (blk_below K3.out hb)
                            replace K5 := Aside0.mk (blk_below K5.out hb)
                            replace HZ := Aside0.mk (HZ.out.below hb)
                            replace HALL := Aside0.mk (Kd.C_below HALL.out hb)
                            replace HB := Aside0.mk (HB.out.trans (hb.mono HB.out.size))
                            clear hb
                            go_wp2_with fail
                            go_ret
                            exact ⟨rfl, HB.out⟩
end Go.Proofs.Ytkeadpichlgagaa.Me
