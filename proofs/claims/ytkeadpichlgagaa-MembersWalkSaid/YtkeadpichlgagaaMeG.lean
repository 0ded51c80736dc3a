/- members: Next, walked. -/
import Derived.Test.YtkeadpichlgagaaMeP
namespace Go.Proofs.Ytkeadpichlgagaa.Me
open Go.RowKit Go.Lib Go.Sort Go.Shelf Go.Proofs.YtkeadpichlgagaaW.PrintWords Go.Proofs.YtkeadpichlgagaaW.PrintLast Go.Proofs.YtkeadpichlgagaaW.PrintMore
open Go.Proofs.Ytkeadpichlgagaa.PMembersNext Go.Proofs.Ytkeadpichlgagaa.Mp
set_option linter.unusedVariables false
set_option linter.unusedSimpArgs false
set_option linter.unnecessarySimpa false

noncomputable def nxF (x : S67) (chs : List S84) : S67 × Int := if rtB x = true then runF x chs else (z67, 80)
theorem C_set {w : World} {A : Option Addr} {xs : List Int} {b : Nat} {T : TypeId} {s0 s1 : Value} (h : (Kd.int .i64).C w A xs.length xs) (hb : w.heap[b]? = some (.cells #[s0, s1] T (0, 0))) (h0 : ∀ n, s0 ≠ .int .i64 n) (h1 : ∀ n, s1 ≠ .int .i64 n) (j : Nat) (u : Value) : (Kd.int .i64).C (w.setCell ⟨b, j, none⟩ u) A xs.length xs := by
  by_cases hx : xs.length = 0
  · obtain rfl := List.length_eq_zero_iff.1 hx
    exact ⟨rfl, by simp, fun h => by simp at h⟩
  · refine C_move (d := Kd.int .i64) h (fun k hk hlt => ?_)
    refine Below.heap_setCell w ⟨b, j, none⟩ u k ?_
    intro e
    show False
    cases A with
    | none => cases hk
    | some ad =>
      have hc := C_cells h rfl 0 (by omega)
      have hkb : ad.block = b := by
        have : ad.block = k := by simpa [AtB] using hk
        rw [this]; exact e
      have hs := spot_none hc
      have h2 : (ad.add 0).block = b := hkb
      obtain ⟨bb, off, sp⟩ := ad
      simp only at hkb
      subst hkb
      have hsp : sp = none := hs
      subst hsp
      rw [Addr.add_lit, blk_cell hb] at hc
      rcases hoff : off + 0 with _ | _ | m
      · rw [hoff] at hc; exact h0 _ (by simpa using hc)
      · rw [hoff] at hc; exact h1 _ (by simpa using hc)
      · rw [hoff] at hc; simp at hc
theorem CfR.set {w : World} {x : S67} {A0 A1 : Option Addr} {c0 c1 : Nat} {b : Nat} {T : TypeId} {s0 s1 : Value} (h : CfR w x A0 c0 A1 c1) (hb : w.heap[b]? = some (.cells #[s0, s1] T (0, 0))) (h0 : ∀ n, s0 ≠ .int .i64 n) (h1 : ∀ n, s1 ≠ .int .i64 n) (j : Nat) (u : Value) : CfR (w.setCell ⟨b, j, none⟩ u) x A0 c0 A1 c1 :=
  ⟨C_set h.g0 hb h0 h1 j u, h.l0, C_set h.g1 hb h0 h1 j u, h.l1⟩
set_option maxHeartbeats 4000000 in
set_option maxRecDepth 100000 in
theorem Next_calls (A0 A1 : Option Addr) (c0 c1 : Nat) (x : S67) (Ac : Option Addr) (cc : Nat) (chs : List S84) (w : World) (hx : CfR w x A0 c0 A1 c1) (hch : Kd.C k84 w Ac chs.length chs) (hl0 : x.f0.length ≤ 1000000) (hl1 : x.f1.length ≤ 1000000) :
    Calls Try.prog 60 #[.agg #[.slice A0 x.f0.length c0, .slice A1 x.f1.length c1], .slice Ac chs.length cc] w (NextQ w (nxF x chs).1 (nxF x chs).2) := by
  have hu67 := Try.underlying67
  have hu84 := Try.underlying84
  have HX := Aside0.mk hx
  have HCH := Aside0.mk hch
  have hmax := hch.2.1
  clear hx hch
  go_enter Try.func60, Try.ntmps60
  go_upto_region 1 with fail
  have HBW : Aside0 (Below w.heap.size w ((w.alloc (Obj.cells #[Value.slice A0 x.f0.length c0, Value.slice A1 x.f1.length c1] 67)).alloc (Obj.cells #[Value.slice none 0 0, Value.slice none 0 0] 67))) := ⟨((Below.refl _ w).alloc (Nat.le_refl _) _).alloc (by simp) _⟩
  have K0 := Aside0.mk (blk_alloc (grown_new (w := w) #[Value.slice A0 x.f0.length c0, Value.slice A1 x.f1.length c1] 67) (Obj.cells #[Value.slice none 0 0, Value.slice none 0 0] 67))
  have K2 := Aside0.mk (grown_new (w := w.alloc (Obj.cells #[Value.slice A0 x.f0.length c0, Value.slice A1 x.f1.length c1] 67)) #[Value.slice none 0 0, Value.slice none 0 0] 67)
  simp only [World.size_alloc] at K2
  generalize (w.alloc (Obj.cells #[Value.slice A0 x.f0.length c0, Value.slice A1 x.f1.length c1] 67)).alloc (Obj.cells #[Value.slice none 0 0, Value.slice none 0 0] 67) = w1 at HBW K0 K2 ⊢
  obtain ⟨b0, hb0⟩ : ∃ b, w.heap.size = b := ⟨_, rfl⟩
  obtain ⟨b2, hb2⟩ : ∃ b, w.heap.size + 1 = b := ⟨_, rfl⟩
  have HG : Aside0 (w.heap.size ≤ b0 ∧ w.heap.size ≤ b2) := ⟨by omega, by omega⟩
  have hn2 : b0 ≠ b2 := by omega
  have HN := Aside0.mk hn2
  rw [hb2] at K2 ⊢
  rw [hb0] at K0 ⊢
  clear hb0 hb2 hn2
  have HCF := Aside0.mk (HX.out.below HBW.out)
  have a0 := (blk_cell K0.out 0).trans (show _ = some (Value.slice A0 x.f0.length c0) from rfl)
  have a1 := (blk_cell K0.out 1).trans (show _ = some (Value.slice A1 x.f1.length c1) from rfl)
  go_wp2_with fail
  have KB : Aside0 ((w1.alloc (Obj.cells #[Value.slice A0 x.f0.length c0, Value.slice A1 x.f1.length c1] 67)).heap[w1.heap.size]? = some (.cells #[Value.slice A0 x.f0.length c0, Value.slice A1 x.f1.length c1] 67 (0, 0))) := ⟨grown_new _ _⟩
  have HBA : Aside0 (Below w1.heap.size w1 (w1.alloc (Obj.cells #[Value.slice A0 x.f0.length c0, Value.slice A1 x.f1.length c1] 67))) := ⟨(Below.refl _ w1).alloc (Nat.le_refl _) _⟩
  have HCA := Aside0.mk (HCF.out.below HBA.out)
  refine (right_calls (some ⟨w1.heap.size, 0, none⟩) 1 [x] (w1.alloc (Obj.cells #[Value.slice A0 x.f0.length c0, Value.slice A1 x.f1.length c1] 67)) (C_conf1 x KB.out HCA.out.l0 HCA.out.g0 HCA.out.l1 HCA.out.g1) (fun y hy => by simp at hy; subst hy; exact ⟨hl0, hl1⟩)).mono ?_
  rintro e w3 ⟨rfl, hb⟩
  have HB3 := Aside0.mk (HBA.out.trans (hb.mono HBA.out.size))
  have HBW3 := Aside0.mk (HBW.out.trans (HB3.out.mono HBW.out.size))
  have K03 := Aside0.mk (blk_below K0.out HB3.out)
  have K23 := Aside0.mk (blk_below K2.out HB3.out)
  have HCF3 := Aside0.mk (HCF.out.below HB3.out)
  rw [show [x].all rtB = rtB x from by simp]
  clear hb KB HBA HCA HCF K0 K2 HB3 HBW a0 a1
  have r0 := (blk_cell K23.out 0).trans (show _ = some (Value.slice none 0 0) from rfl)
  have r1 := (blk_cell K23.out 1).trans (show _ = some (Value.slice none 0 0) from rfl)
  have q0 := blk_frozen K23.out 0
  have q1 := blk_frozen K23.out 1
  cases hrt : rtB x with
  | false =>
    have HE : Aside0 (nxF x chs = (z67, 80)) := ⟨by unfold nxF; rw [if_neg (by rw [hrt]; decide)]⟩
    clear hrt
    go_wp2_with fail
    refine bodyPost_ret (results_ct rfl _ _ b2 67 #[.slice none 0 0, .slice none 0 0] (0, 0) _ rfl (blk_put (cs := #[.slice none 0 0, .slice none 0 0]) (blk_put (cs := #[.slice none 0 0, .slice none 0 0]) K23.out 0 _ rfl) 1 _ rfl) Try.underlying67 rfl (by kernel_rfl)) rfl ?_
    rw [HE.out]
    exact ⟨_, rfl, cfv_nil _, (HBW3.out.setCell (p := ⟨b2, 0, none⟩) HG.out.2 _).setCell (p := ⟨b2, 1, none⟩) HG.out.2 _⟩
  | true =>
    have HRT := Aside0.mk (rtB_iff.1 hrt)
    have HE : Aside0 (nxF x chs = runF x chs) := ⟨by unfold nxF; rw [if_pos hrt]⟩
    clear hrt
    have HSS : Aside0 (∀ W, Below w3.heap.size w3 W → W.cell? ⟨b0, 0, none⟩ = some (.slice A0 x.f0.length c0) ∧ W.cell? ⟨b0, 1, none⟩ = some (.slice A1 x.f1.length c1)) := ⟨fun W hW => ⟨(blk_cell (blk_below K03.out hW) 0).trans rfl, (blk_cell (blk_below K03.out hW) 1).trans rfl⟩⟩
    have HD5 : Aside0 (Below w3.heap.size w3 w3.drew) := ⟨(Below.refl _ _).drew⟩
    clear r0 r1 q0 q1
    go_upto_region 3 with fail
    refine start_ (n := 8) (S := fun w' => w'.cell? ⟨b0, 0, none⟩ = some (.slice A0 x.f0.length c0) ∧ w'.cell? ⟨b0, 1, none⟩ = some (.slice A1 x.f1.length c1)) (ds := [7]) #[false, false, false, false, false, false, false, false] (by kernel_rfl) rfl rfl (HSS.out _ HD5.out) (fun hHeld => ?_)
    refine pure_ (i := 0) (N := some 14) (v := ?_) (a' := ?_) #[true, false, false, false, false, false, false, false] rfl rfl (by kernel_rfl) (fun _ _ _ h => h) (Or.inl ⟨by rfl, ?_⟩) ?_ ?_
    rotate_left
    · intro w'
      go_simp
      with_reducible rfl
    rotate_left
    · simp only [Act.put, List.setIfInBounds_toArray, List.set_cons_zero, List.set_cons_succ, i64_w, i32_w]
      rfl
    refine pure_ (i := 3) (N := some 17) (v := ?_) (a' := ?_) #[true, false, false, true, false, false, false, false] rfl rfl (by kernel_rfl) (fun _ _ _ h => h) (Or.inl ⟨by rfl, ?_⟩) ?_ ?_
    rotate_left
    · intro w'
      go_simp
      with_reducible rfl
    rotate_left
    · simp only [Act.put, List.setIfInBounds_toArray, List.set_cons_zero, List.set_cons_succ, i64_w, i32_w]
      rfl
    refine take_ (i := 1) (N := some 15) (v := ?_) (a' := ?_) #[true, true, false, true, false, false, false, false] rfl rfl (by kernel_rfl) (fun _ _ _ h => h) (Or.inl ⟨by rfl, ?_⟩) hHeld ?_ ?_
    rotate_left
    · rintro w' ⟨s0, s1⟩
      go_simp
      with_reducible rfl
    rotate_left
    · simp only [Act.put, List.setIfInBounds_toArray, List.set_cons_zero, List.set_cons_succ, i64_w, i32_w]
      rfl
    refine take_ (i := 4) (N := some 18) (v := ?_) (a' := ?_) #[true, true, false, true, true, false, false, false] rfl rfl (by kernel_rfl) (fun _ _ _ h => h) (Or.inl ⟨by rfl, ?_⟩) hHeld ?_ ?_
    rotate_left
    · rintro w' ⟨s0, s1⟩
      go_simp
      with_reducible rfl
    rotate_left
    · simp only [Act.put, List.setIfInBounds_toArray, List.set_cons_zero, List.set_cons_succ, i64_w, i32_w]
      rfl
    refine one_ (i := 2) (N := some 16) #[true, true, true, true, true, false, false, false] rfl rfl (by kernel_rfl) (by decide) (fun K hK => ?_)
    refine goes_ Try.func86 (by kernel_rfl) rfl #[.slice A0 x.f0.length c0] (by rfl) rfl rfl (by (try simp only [List.map_toArray, List.map_cons, List.map_nil]); first | done | rfl) ?_
    refine (clone_calls A0 c0 x.f0 w3.drew (HCF3.out.below HD5.out).g0 hl0).mono ?_
    rintro e w6 ⟨v6, rfl, hr6, hb6⟩
    obtain ⟨A6, c6, rfl⟩ := Kd.R_slice hr6
    have HR6 := Aside0.mk hr6
    have HB66 := Aside0.mk (HD5.out.trans (hb6.mono HD5.out.size))
    clear hr6 hb6
    refine ⟨_, rfl, ?_⟩
    refine hK.out _ _ (HSS.out _ HB66.out) (fun hHeld => ?_)
    clear hK K
    refine norm_ (a' := ?_) ?_ ?_
    rotate_left
    · show Act.put _ (some 16) _ = _
      simp only [Act.put, List.setIfInBounds_toArray, List.set_cons_zero, List.set_cons_succ, i64_w, i32_w]
      rfl
    refine one_ (i := 5) (N := some 19) #[true, true, true, true, true, true, false, false] rfl rfl (by kernel_rfl) (by decide) (fun K hK => ?_)
    refine goes_ Try.func86 (by kernel_rfl) rfl #[.slice A1 x.f1.length c1] (by rfl) rfl rfl (by (try simp only [List.map_toArray, List.map_cons, List.map_nil]); first | done | rfl) ?_
    refine (clone_calls A1 c1 x.f1 w6 (HCF3.out.below HB66.out).g1 hl1).mono ?_
    rintro e w7 ⟨v7, rfl, hr7, hb7⟩
    obtain ⟨A7, c7, rfl⟩ := Kd.R_slice hr7
    have HR67 := Aside0.mk (Kd.R_below HR6.out hb7)
    have HR7 := Aside0.mk hr7
    have HB77 := Aside0.mk (HB66.out.trans (hb7.mono HB66.out.size))
    have K07 := Aside0.mk (blk_below K03.out HB77.out)
    have K27 := Aside0.mk (blk_below K23.out HB77.out)
    have a07 := (blk_cell K07.out 0).trans (show _ = some (Value.slice A0 x.f0.length c0) from rfl)
    have a17 := (blk_cell K07.out 1).trans (show _ = some (Value.slice A1 x.f1.length c1) from rfl)
    have p07 := blk_frozen K07.out 0
    have p17 := blk_frozen K07.out 1
    clear hr7 hb7 HR6
    refine ⟨_, rfl, ?_⟩
    refine hK.out _ _ (HSS.out _ HB77.out) (fun hHeld => ?_)
    clear hK K
    refine norm_ (a' := ?_) ?_ ?_
    rotate_left
    · show Act.put _ (some 19) _ = _
      simp only [Act.put, List.setIfInBounds_toArray, List.set_cons_zero, List.set_cons_succ, i64_w, i32_w]
      rfl
    refine pure_ (i := 6) (N := some 20) (v := ?_) (a' := ?_) #[true, true, true, true, true, true, true, false] rfl rfl (by kernel_rfl) (fun _ _ _ h => h) (Or.inl ⟨by rfl, ?_⟩) ?_ ?_
    rotate_left
    · intro w'
      go_simp
      with_reducible rfl
    rotate_left
    · simp only [Act.put, List.setIfInBounds_toArray, List.set_cons_zero, List.set_cons_succ, i64_w, i32_w]
      rfl
    refine last_ (i := 7) (N := none) #[true, true, true, true, true, true, true, true] rfl rfl (by kernel_rfl) (by decide) (fun K hK => ?_)
    refine skip_ (w1 := ?_) (by rfl) rfl ?_ ?_
    rotate_left
    · go_simp
      rfl
    refine hK.out _ _ ?_
    clear hK K
    refine done_ (by kernel_rfl) ?_

    have HB8 := Aside0.mk (((HBW3.out.trans (HB77.out.mono HBW3.out.size)).setCell (p := ⟨b0, 0, none⟩) HG.out.1 (.slice A6 x.f0.length c6)).setCell (p := ⟨b0, 1, none⟩) HG.out.1 (.slice A7 x.f1.length c7))
    have K08 := Aside0.mk (blk_put (cs := #[.slice A6 x.f0.length c6, .slice A1 x.f1.length c1]) (blk_put (cs := #[.slice A0 x.f0.length c0, .slice A1 x.f1.length c1]) K07.out 0 (.slice A6 x.f0.length c6) rfl) 1 (.slice A7 x.f1.length c7) rfl)
    have K28 := Aside0.mk (blk_far (blk_far K27.out (p := ⟨b0, 0, none⟩) HN.out.symm (.slice A6 x.f0.length c6)) (p := ⟨b0, 1, none⟩) HN.out.symm (.slice A7 x.f1.length c7))
    have HCF8 : Aside0 (CfR ((w7.setCell ⟨b0, 0, none⟩ (.slice A6 x.f0.length c6)).setCell ⟨b0, 1, none⟩ (.slice A7 x.f1.length c7)) x A6 c6 A7 c7) := ⟨by
      have h : CfR w7 x A6 c6 A7 c7 := ⟨(Kd.R_reads' HR67.out).2.2, (Kd.R_reads' HR67.out).2.1, (Kd.R_reads' HR7.out).2.2, (Kd.R_reads' HR7.out).2.1⟩
      exact (h.set K07.out (fun n h => by cases h) (fun n h => by cases h) 0 _).set (blk_put (cs := #[.slice A0 x.f0.length c0, .slice A1 x.f1.length c1]) K07.out 0 (.slice A6 x.f0.length c6) rfl) (fun n h => by cases h) (fun n h => by cases h) 1 _⟩
    clear a07 a17 p07 p17 K07 K27 HR67 HR7 hHeld HB66 HB77 HD5 HSS HCF3 K03 K23 HBW3
    generalize (w7.setCell ⟨b0, 0, none⟩ (.slice A6 x.f0.length c6)).setCell ⟨b0, 1, none⟩ (.slice A7 x.f1.length c7) = w8 at HB8 K08 K28 HCF8 ⊢
    go_wp2_with fail
    go_loopg [7, 8, 23] chs.length (fun kq v7 v8 v23 wr => ∃ (i : Nat) (y : S67) (B0 : Option Addr) (d0 : Nat) (B1 : Option Addr) (d1 : Nat), v23 = .int .i64 i ∧ i + kq = chs.length ∧ Aside0 (Rt y) ∧ Aside0 (runF x chs = runF y (chs.drop i)) ∧ Aside0 (wr.heap[b0]? = some (.cells #[.slice B0 y.f0.length d0, .slice B1 y.f1.length d1] 67 (0, 0))) ∧ Aside0 (wr.heap[b2]? = some (.cells #[.slice none 0 0, .slice none 0 0] 67 (0, 0))) ∧ Aside0 (CfR wr y B0 d0 B1 d1) ∧ Aside0 (Below w.heap.size w wr))
    case atStart => exact ⟨0, x, A6, c6, A7, c7, rfl, by omega, HRT, ⟨by rw [List.drop_zero]⟩, K08, K28, HCF8, HB8⟩
    case round =>
      clear K08 K28 HCF8 HB8
      obtain ⟨i, y, B0, d0, B1, d1, rfl, hi, HRY, HRU, K0, K2, HCF, HB⟩ := hrel
      by_cases hlt : i < chs.length
      · have hlt' : (i : Int) < (chs.length : Int) := by omega
        obtain ⟨ad, ea, y0, y1⟩ := at_T84 (Kd.C_below HCH.out HB.out) i (by omega) hlt'
        subst ea
        have er : rd_T84 chs (i : Int) = chs[i] := by simp [rd_T84, hlt]
        rw [er] at y0 y1
        simp only [Int.toNat_natCast] at y0 y1
        have HRN : Aside0 (runF x chs = if nextE y chs[i].f0 chs[i].f1 ≠ 0 then (z67, nextE y chs[i].f0 chs[i].f1) else runF (nextC y chs[i].f0 chs[i].f1) (chs.drop (i + 1))) := ⟨by rw [HRU.out, List.drop_eq_getElem_cons hlt]; rfl⟩
        clear er HRU
        generalize chs[i] = ch at y0 y1 HRN
        obtain ⟨d, id⟩ := ch
        simp only at y0 y1
        go_upto_region 7 with fail
        have KA0 := Aside0.mk (blk_alloc K0.out (Obj.cells #[Value.int IntKind.i64 d, Value.int IntKind.i64 id] 84))
        have KA2 := Aside0.mk (blk_alloc K2.out (Obj.cells #[Value.int IntKind.i64 d, Value.int IntKind.i64 id] 84))
        have KA7 := Aside0.mk (grown_new (w := wr) #[Value.int IntKind.i64 d, Value.int IntKind.i64 id] 84)
        have HBr : Below wr.heap.size wr (wr.alloc (Obj.cells #[Value.int IntKind.i64 d, Value.int IntKind.i64 id] 84)) := (Below.refl _ wr).alloc (Nat.le_refl _) _
        have HCFA := Aside0.mk (HCF.out.below HBr)
        have HBA := Aside0.mk (HB.out.trans (HBr.mono HB.out.size))
        clear HBr K0 K2 HCF HB y0 y1
        generalize wr.alloc (Obj.cells #[Value.int IntKind.i64 d, Value.int IntKind.i64 id] 84) = w9 at KA0 KA2 KA7 HCFA HBA ⊢
        generalize wr.heap.size = b7 at KA7 ⊢
        have a0 := (blk_cell KA0.out 0).trans (show _ = some (Value.slice B0 y.f0.length d0) from rfl)
        have a1 := (blk_cell KA0.out 1).trans (show _ = some (Value.slice B1 y.f1.length d1) from rfl)
        have e0 := (blk_cell KA7.out 0).trans (show _ = some (Value.int .i64 d) from rfl)
        have e1 := (blk_cell KA7.out 1).trans (show _ = some (Value.int .i64 id) from rfl)
        go_wp2_with fail
        refine (next_calls B0 B1 d0 d1 y d id w9 HCFA.out HRY.out).mono ?_
        rintro e w10 ⟨v, rfl, ⟨C0, k0, C1, k1, rfl, hcf⟩, hb⟩
        have K0 := Aside0.mk (blk_below KA0.out hb)
        have K2 := Aside0.mk (blk_below KA2.out hb)
        have HCF := Aside0.mk hcf
        have HB := Aside0.mk (HBA.out.trans (hb.mono HBA.out.size))
        clear hb hcf KA0 KA2 KA7 HCFA HBA a0 a1 e0 e1
        have a0 := (blk_cell K0.out 0).trans (show _ = some (Value.slice B0 y.f0.length d0) from rfl)
        have a1 := (blk_cell K0.out 1).trans (show _ = some (Value.slice B1 y.f1.length d1) from rfl)
        have p0 := blk_frozen K0.out 0
        have p1 := blk_frozen K0.out 1
        have K0n := Aside0.mk (blk_put (cs := #[.slice C0 (nextC y d id).f0.length k0, .slice B1 y.f1.length d1]) (blk_put (cs := #[.slice B0 y.f0.length d0, .slice B1 y.f1.length d1]) K0.out 0 (.slice C0 (nextC y d id).f0.length k0) rfl) 1 (.slice C1 (nextC y d id).f1.length k1) rfl)
        have K2n := Aside0.mk (blk_far (blk_far K2.out (p := ⟨b0, 0, none⟩) HN.out.symm (.slice C0 (nextC y d id).f0.length k0)) (p := ⟨b0, 1, none⟩) HN.out.symm (.slice C1 (nextC y d id).f1.length k1))
        have HBn := Aside0.mk ((HB.out.setCell (p := ⟨b0, 0, none⟩) HG.out.1 (.slice C0 (nextC y d id).f0.length k0)).setCell (p := ⟨b0, 1, none⟩) HG.out.1 (.slice C1 (nextC y d id).f1.length k1))
        have HCFn := Aside0.mk ((HCF.out.set K0.out (fun n h => by cases h) (fun n h => by cases h) 0 (.slice C0 (nextC y d id).f0.length k0)).set (blk_put (cs := #[.slice B0 y.f0.length d0, .slice B1 y.f1.length d1]) K0.out 0 (.slice C0 (nextC y d id).f0.length k0) rfl) (fun n h => by cases h) (fun n h => by cases h) 1 (.slice C1 (nextC y d id).f1.length k1))
        go_upto_region 9 with fail
        clear a0 a1 p0 p1 K0 K2 HCF HB
        generalize (w10.setCell ⟨b0, 0, none⟩ (.slice C0 (nextC y d id).f0.length k0)).setCell ⟨b0, 1, none⟩ (.slice C1 (nextC y d id).f1.length k1) = w11 at K0n K2n HBn HCFn ⊢
        by_cases hne : nextE y d id = 0
        · have t1 : (nextE y d id != 0) = false := by simpa using hne
          have HRY2 := Aside0.mk (Rt_next HRY.out hne)
          have HRU2 : Aside0 (runF x chs = runF (nextC y d id) (chs.drop (i + 1))) := ⟨by rw [HRN.out, if_neg (by simpa using hne)]⟩
          clear hne
          go_wp2_with fail
          go_roundg (chs.length - (i + 1))
          case measure => omega
          case rel => exact ⟨i + 1, nextC y d id, C0, k0, C1, k1, by go_num, by omega, HRY2, HRU2, K0n, K2n, HCFn, HBn⟩
        · have t1 : (nextE y d id != 0) = true := by simpa using hne
          have HRU2 : Aside0 (nxF x chs = (z67, nextE y d id)) := ⟨by rw [HE.out, HRN.out, if_pos (by simpa using hne)]⟩
          clear hne
          have r0 := (blk_cell K2n.out 0).trans (show _ = some (Value.slice none 0 0) from rfl)
          have r1 := (blk_cell K2n.out 1).trans (show _ = some (Value.slice none 0 0) from rfl)
          have q0 := blk_frozen K2n.out 0
          have q1 := blk_frozen K2n.out 1
          go_wp2_with fail
          refine bodyPost_ret (results_ct rfl _ _ b2 67 #[.slice none 0 0, .slice none 0 0] (0, 0) _ rfl (blk_put (cs := #[.slice none 0 0, .slice none 0 0]) (blk_put (cs := #[.slice none 0 0, .slice none 0 0]) K2n.out 0 _ rfl) 1 _ rfl) Try.underlying67 rfl (by kernel_rfl)) rfl ?_
          rw [HRU2.out]
          exact ⟨_, rfl, cfv_nil _, (HBn.out.setCell (p := ⟨b2, 0, none⟩) HG.out.2 _).setCell (p := ⟨b2, 1, none⟩) HG.out.2 _⟩
      · have HRU2 : Aside0 (nxF x chs = (y, 0)) := ⟨by rw [HE.out, HRU.out, List.drop_of_length_le (by omega)]; rfl⟩
        have a0 := (blk_cell K0.out 0).trans (show _ = some (Value.slice B0 y.f0.length d0) from rfl)
        have a1 := (blk_cell K0.out 1).trans (show _ = some (Value.slice B1 y.f1.length d1) from rfl)
        have r0 := (blk_cell K2.out 0).trans (show _ = some (Value.slice none 0 0) from rfl)
        have r1 := (blk_cell K2.out 1).trans (show _ = some (Value.slice none 0 0) from rfl)
        have q0 := blk_frozen K2.out 0
        have q1 := blk_frozen K2.out 1
        go_wp2_with fail
        refine bodyPost_ret (results_ct rfl _ _ b2 67 #[.slice B0 y.f0.length d0, .slice B1 y.f1.length d1] (0, 0) _ rfl (blk_put (cs := #[.slice B0 y.f0.length d0, .slice none 0 0]) (blk_put (cs := #[.slice none 0 0, .slice none 0 0]) K2.out 0 _ rfl) 1 _ rfl) Try.underlying67 rfl (by kernel_rfl)) rfl ?_
        rw [HRU2.out]
        have hcf := (HCF.out.set K2.out (fun n h => by cases h) (fun n h => by cases h) 0 (.slice B0 y.f0.length d0)).set (blk_put (cs := #[.slice none 0 0, .slice none 0 0]) K2.out 0 (.slice B0 y.f0.length d0) rfl) (fun n h => by cases h) (fun n h => by cases h) 1 (.slice B1 y.f1.length d1)
        exact ⟨_, rfl, ⟨B0, d0, B1, d1, rfl, hcf⟩, (HB.out.setCell (p := ⟨b2, 0, none⟩) HG.out.2 _).setCell (p := ⟨b2, 1, none⟩) HG.out.2 _⟩
end Go.Proofs.Ytkeadpichlgagaa.Me
