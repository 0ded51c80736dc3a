/- Kept of the text PlR: what is reached (wip/tools/prune.py). -/
import Derived.Test.YtkeadpichlgagaaVPm8
namespace Go.Proofs.Ytkeadpichlgagaa.Pla
open Go.RowKit Go.Lib Go.Sort Go.Shelf Go.Proofs.YtkeadpichlgagaaW.PrintWords Go.Proofs.YtkeadpichlgagaaW.PrintLast Go.Proofs.YtkeadpichlgagaaW.PrintMore
open Go.Proofs.Ytkeadpichlgagaa.Pl Go.Proofs.Ytkeadpichlgagaa.PlS Go.Proofs.Ytkeadpichlgagaa.Mp
set_option linter.unusedVariables false
set_option linter.unusedSimpArgs false
set_option linter.unnecessarySimpa false
set_option maxHeartbeats 16000000 in
set_option maxRecDepth 100000 in
theorem checks_law (A : Option Addr) (c : Nat) (b d : Int) (ws : List S51) (A2 : Option Addr) (c2 : Nat) (b2 d2 : Int) (ws2 : List S51) (q : Int) (w : World) (hC : k51.C w A ws.length ws) (hcap : ws.length ≤ c) (hC2 : k51.C w A2 ws2.length ws2) (hcap2 : ws2.length ≤ c2) (hs : sizeN ws + sizeN ws2 ≤ 4000000) :
    Calls Try.prog 7 #[.agg #[.int .i64 b, .int .i64 d, .slice A ws.length c], .agg #[.int .i64 b2, .int .i64 d2, .slice A2 ws2.length c2], .int .i64 q] w fun e w' => e = .returned (.bool true) ∧ Below w.heap.size w w' := by
  have HCC := Aside0.mk hC
  have HCQ := Aside0.mk hC2
  have HS := Aside0.mk hs
  have HB : Aside0 (Below w.heap.size w w) := ⟨Below.refl _ _⟩
  clear hC hC2 hs
  go_enter Try.func7, Try.ntmps7
  go_upto_region 1 with fail
  have hbx : Below w.heap.size w ((w.alloc (Obj.cells #[.int .i64 b, .int .i64 d, .slice A ws.length c] 43)).alloc (Obj.cells #[.int .i64 b2, .int .i64 d2, .slice A2 ws2.length c2] 43)) := ((Below.refl _ w).alloc (Nat.le_refl _) _).alloc (by simp only [World.size_alloc]; omega) _
  have K3 := Aside0.mk (blk_alloc (grown_new (w := w) #[.int .i64 b, .int .i64 d, .slice A ws.length c] 43) (Obj.cells #[.int .i64 b2, .int .i64 d2, .slice A2 ws2.length c2] 43))
  have K4 := Aside0.mk (grown_new (w := (w.alloc (Obj.cells #[.int .i64 b, .int .i64 d, .slice A ws.length c] 43))) #[.int .i64 b2, .int .i64 d2, .slice A2 ws2.length c2] 43)
  simp only [World.size_alloc] at K4
  replace HB := Aside0.mk (HB.out.trans (hbx.mono HB.out.size))
  clear hbx
  generalize ((w.alloc (Obj.cells #[.int .i64 b, .int .i64 d, .slice A ws.length c] 43)).alloc (Obj.cells #[.int .i64 b2, .int .i64 d2, .slice A2 ws2.length c2] 43)) = w1 at *
  obtain ⟨b4, hb4⟩ : ∃ b, w.heap.size + 1 = b := ⟨_, rfl⟩
  rw [hb4] at K4 ⊢
  clear hb4
  obtain ⟨b3, hb3⟩ : ∃ b, w.heap.size = b := ⟨_, rfl⟩
  rw [hb3] at K3 ⊢
  clear hb3
  have HD : Aside0 (Below w1.heap.size w1 w1.drew) := ⟨(Below.refl _ _).drew⟩
  have HC : Aside0 (∀ W, Below w1.heap.size w1 W → W.cell? ⟨b3, 0, none⟩ = some (.int .i64 b) ∧ W.cell? ⟨b3, 1, none⟩ = some (.int .i64 d) ∧ W.cell? ⟨b3, 2, none⟩ = some (.slice A ws.length c) ∧ W.cell? ⟨b4, 0, none⟩ = some (.int .i64 b2) ∧ W.cell? ⟨b4, 1, none⟩ = some (.int .i64 d2) ∧ W.cell? ⟨b4, 2, none⟩ = some (.slice A2 ws2.length c2)) := ⟨fun W hW => ⟨(blk_cell (blk_below K3.out hW) 0).trans rfl, (blk_cell (blk_below K3.out hW) 1).trans rfl, (blk_cell (blk_below K3.out hW) 2).trans rfl, (blk_cell (blk_below K4.out hW) 0).trans rfl, (blk_cell (blk_below K4.out hW) 1).trans rfl, (blk_cell (blk_below K4.out hW) 2).trans rfl⟩⟩
  obtain ⟨S1, hS1⟩ : ∃ S1, sizeN ws = S1 := ⟨_, rfl⟩
  obtain ⟨S2, hS2⟩ : ∃ S2, sizeN ws2 = S2 := ⟨_, rfl⟩
  have HS1 := Aside0.mk hS1
  have HS2 := Aside0.mk hS2
  have hss : S1 + S2 ≤ 4000000 := by rw [← hS1, ← hS2]; exact HS.out
  have hsw1 : wrap64 ((S1 : Int) + (S2 : Int)) = (S1 : Int) + (S2 : Int) := by unfold wrap64; omega
  have hsw2 : IntKind.i64.wrap ((S1 : Int) + (S2 : Int)) = (S1 : Int) + (S2 : Int) := by rw [i64_w]; exact hsw1
  clear hS1 hS2
  refine start_ (n := 10) (S := fun w' => w'.cell? ⟨b3, 0, none⟩ = some (.int .i64 b) ∧ w'.cell? ⟨b3, 1, none⟩ = some (.int .i64 d) ∧ w'.cell? ⟨b3, 2, none⟩ = some (.slice A ws.length c) ∧ w'.cell? ⟨b4, 0, none⟩ = some (.int .i64 b2) ∧ w'.cell? ⟨b4, 1, none⟩ = some (.int .i64 d2) ∧ w'.cell? ⟨b4, 2, none⟩ = some (.slice A2 ws2.length c2)) (ds := []) #[false, false, false, false, false, false, false, false, false, false] (by kernel_rfl) rfl rfl (HC.out _ HD.out) (fun hHeld => ?_)
  refine one_ (i := 0) (N := some 15) #[true, false, false, false, false, false, false, false, false, false] rfl rfl (by kernel_rfl) (by decide) (fun K hK => ?_)
  refine goes_ Try.func27 (by kernel_rfl) rfl #[] (by rfl) rfl rfl (by (try simp only [List.map_toArray, List.map_cons, List.map_nil]); first | done | rfl) ?_
  refine (awake_calls w1.drew).mono ?_
  rintro e w2 ⟨rfl, hb⟩
  refine ⟨_, rfl, ?_⟩
  replace HD := Aside0.mk (HD.out.trans (hb.mono HD.out.size))
  clear hb
  refine hK.out _ _ (HC.out _ HD.out) (fun hHeld => ?_)
  clear hK K
  refine norm_ (a' := ?_) ?_ ?_
  rotate_left
  · show Act.put _ (some 15) _ = _
    simp only [Act.put, List.setIfInBounds_toArray, List.set_cons_zero, List.set_cons_succ, i64_w, i32_w]
    rfl
  refine pure_ (i := 1) (N := some 16) (v := ?_) (a' := ?_) #[true, true, false, false, false, false, false, false, false, false] rfl rfl (by kernel_rfl) (fun _ _ _ h => h) (Or.inl ⟨by rfl, ?_⟩) ?_ ?_
  rotate_left
  · intro w'
    go_simp
    with_reducible rfl
  rotate_left
  · simp only [Act.put, List.setIfInBounds_toArray, List.set_cons_zero, List.set_cons_succ, i64_w, i32_w]
    rfl
  refine pure_ (i := 2) (N := some 17) (v := ?_) (a' := ?_) #[true, true, true, false, false, false, false, false, false, false] rfl rfl (by kernel_rfl) (fun _ _ _ h => h) (Or.inl ⟨by rfl, ?_⟩) ?_ ?_
  rotate_left
  · intro w'
    go_simp
    with_reducible rfl
  rotate_left
  · simp only [Act.put, List.setIfInBounds_toArray, List.set_cons_zero, List.set_cons_succ, i64_w, i32_w]
    rfl
  refine take_ (i := 3) (N := some 18) (v := ?_) (a' := ?_) #[true, true, true, true, false, false, false, false, false, false] rfl rfl (by kernel_rfl) (fun _ _ _ h => h) (Or.inl ⟨by rfl, ?_⟩) hHeld ?_ ?_
  rotate_left
  · rintro w' ⟨s0, s1, s2, s3, s4, s5⟩
    go_simp
    with_reducible rfl
  rotate_left
  · simp only [Act.put, List.setIfInBounds_toArray, List.set_cons_zero, List.set_cons_succ, i64_w, i32_w]
    rfl
  refine take_ (i := 5) (N := some 20) (v := ?_) (a' := ?_) #[true, true, true, true, false, true, false, false, false, false] rfl rfl (by kernel_rfl) (fun _ _ _ h => h) (Or.inl ⟨by rfl, ?_⟩) hHeld ?_ ?_
  rotate_left
  · rintro w' ⟨s0, s1, s2, s3, s4, s5⟩
    go_simp
    with_reducible rfl
  rotate_left
  · simp only [Act.put, List.setIfInBounds_toArray, List.set_cons_zero, List.set_cons_succ, i64_w, i32_w]
    rfl
  refine one_ (i := 4) (N := some 19) #[true, true, true, true, true, true, false, false, false, false] rfl rfl (by kernel_rfl) (by decide) (fun K hK => ?_)
  refine goes_ Try.func28 (by kernel_rfl) rfl #[.agg #[.int .i64 b, .int .i64 d, .slice A ws.length c]] (by rfl) rfl rfl (by (try simp only [List.map_toArray, List.map_cons, List.map_nil]); first | done | rfl) ?_
  refine (size_calls b d A c ws w2 (Kd.C_below HCC.out (HB.out.trans (HD.out.mono HB.out.size))) hcap (by rw [HS1.out]; omega)).mono ?_
  rintro e w3 ⟨rfl, hb⟩
  rw [HS1.out]
  refine ⟨_, rfl, ?_⟩
  replace HD := Aside0.mk (HD.out.trans (hb.mono HD.out.size))
  clear hb
  refine hK.out _ _ (HC.out _ HD.out) (fun hHeld => ?_)
  clear hK K
  refine norm_ (a' := ?_) ?_ ?_
  rotate_left
  · show Act.put _ (some 19) _ = _
    simp only [Act.put, List.setIfInBounds_toArray, List.set_cons_zero, List.set_cons_succ, i64_w, i32_w]
    rfl
  refine one_ (i := 6) (N := some 21) #[true, true, true, true, true, true, true, false, false, false] rfl rfl (by kernel_rfl) (by decide) (fun K hK => ?_)
  refine goes_ Try.func28 (by kernel_rfl) rfl #[.agg #[.int .i64 b2, .int .i64 d2, .slice A2 ws2.length c2]] (by rfl) rfl rfl (by (try simp only [List.map_toArray, List.map_cons, List.map_nil]); first | done | rfl) ?_
  refine (size_calls b2 d2 A2 c2 ws2 w3 (Kd.C_below HCQ.out (HB.out.trans (HD.out.mono HB.out.size))) hcap2 (by rw [HS2.out]; omega)).mono ?_
  rintro e w4 ⟨rfl, hb⟩
  rw [HS2.out]
  refine ⟨_, rfl, ?_⟩
  replace HD := Aside0.mk (HD.out.trans (hb.mono HD.out.size))
  clear hb
  refine hK.out _ _ (HC.out _ HD.out) (fun hHeld => ?_)
  clear hK K
  refine norm_ (a' := ?_) ?_ ?_
  rotate_left
  · show Act.put _ (some 21) _ = _
    simp only [Act.put, List.setIfInBounds_toArray, List.set_cons_zero, List.set_cons_succ, i64_w, i32_w]
    rfl
  refine pure_ (i := 7) (N := some 22) (v := ?_) (a' := ?_) #[true, true, true, true, true, true, true, true, false, false] rfl rfl (by kernel_rfl) (fun _ _ _ h => h) (Or.inl ⟨by rfl, ?_⟩) ?_ ?_
  rotate_left
  · intro w'
    go_simp
    with_reducible rfl
  rotate_left
  · simp only [Act.put, List.setIfInBounds_toArray, List.set_cons_zero, List.set_cons_succ, i64_w, i32_w]
    rfl
  refine pure_ (i := 8) (N := some 23) (v := ?_) (a' := ?_) #[true, true, true, true, true, true, true, true, true, false] rfl rfl (by kernel_rfl) (fun _ _ _ h => h) (Or.inl ⟨by rfl, ?_⟩) ?_ ?_
  rotate_left
  · intro w'
    go_simp
    with_reducible rfl
  rotate_left
  · simp only [Act.put, List.setIfInBounds_toArray, List.set_cons_zero, List.set_cons_succ, i64_w, i32_w]
    rfl
  refine pure_ (i := 9) (N := some 24) (v := ?_) (a' := ?_) #[true, true, true, true, true, true, true, true, true, true] rfl rfl (by kernel_rfl) (fun _ _ _ h => h) (Or.inl ⟨by rfl, ?_⟩) ?_ ?_
  rotate_left
  · intro w'
    go_simp
    with_reducible rfl
  rotate_left
  · simp only [Act.put, List.setIfInBounds_toArray, List.set_cons_zero, List.set_cons_succ, i64_w, i32_w]
    rfl
  refine done_ (by kernel_rfl) ?_
  have hb := HD.out
  clear HD HC hHeld
  replace K3 := Aside0.mk (blk_below K3.out hb)
  replace K4 := Aside0.mk (blk_below K4.out hb)
  replace HB := Aside0.mk (HB.out.trans (hb.mono HB.out.size))
  clear hb
  clear hsw1 hsw2
  obtain ⟨SS, hSS⟩ : ∃ SS : Nat, (S1 : Int) + (S2 : Int) = (SS : Int) := ⟨S1 + S2, by omega⟩
  rw [hSS]
  by_cases h6 : 600 < SS
  ·
    have d6 : (600 : Int) < (SS : Int) := by omega
    clear hSS
    go_wp2_with fail
    refine (awake_calls _).mono ?_
    rintro e w5 ⟨rfl, hb⟩
    replace K3 := Aside0.mk (blk_below K3.out hb)
    replace K4 := Aside0.mk (blk_below K4.out hb)
    replace HB := Aside0.mk (HB.out.trans (hb.mono HB.out.size))
    clear hb
    go_wp2_with fail
    go_ret
    exact ⟨rfl, HB.out⟩
  ·
    have d6 : (SS : Int) ≤ 600 := by omega
    have hs1 : S1 ≤ 600 := by omega
    have hs2 : S2 ≤ 600 := by omega
    clear hSS
    have HZ := Aside0.mk (psz_of (ws := ws) (by rw [HS1.out]; omega))
    have HZ2 := Aside0.mk (psz_of (ws := ws2) (by rw [HS2.out]; omega))
    have HBD := Aside0.mk (sizeN_bd ws)
    have HBD2 := Aside0.mk (sizeN_bd ws2)
    have hnl : ws.length ≤ 600 := by have := HBD.out.1; have := HS1.out; omega
    clear h6
    have K3c0 := (blk_cell K3.out 0).trans (show _ = some (.int .i64 b) from rfl)
    have K3c1 := (blk_cell K3.out 1).trans (show _ = some (.int .i64 d) from rfl)
    have K3c2 := (blk_cell K3.out 2).trans (show _ = some (.slice A ws.length c) from rfl)
    go_wp2_with fail
    clear d6
    refine (bytes_calls b d A c ws w4 (Kd.C_below HCC.out HB.out) hcap (by rw [HS1.out]; omega)).mono ?_
    rintro e w5 ⟨Ab, cb, rfl, hcb, hb⟩
    have hcv := run_str (P := Try.prog) (src := 45) (dst := 9) (e := 5) Try.underlying45 Try.underlying5 Try.underlying9 (c := cb) hcb
    clear hcb
    clear K3c0 K3c1 K3c2
    replace K3 := Aside0.mk (blk_below K3.out hb)
    replace K4 := Aside0.mk (blk_below K4.out hb)
    replace HB := Aside0.mk (HB.out.trans (hb.mono HB.out.size))
    clear hb
    go_upto_region 4 with fail
    clear hcv
    obtain ⟨was, hwas⟩ : ∃ was, strOfNums (pB b d ws) = was := ⟨_, rfl⟩
    have HWAS := Aside0.mk hwas
    rw [hwas]
    clear hwas
    generalize (pB b d ws).length = lpb
    obtain ⟨ck, hck⟩ : ∃ ck, checkF b d ws = ck := ⟨_, rfl⟩
    have HCK := Aside0.mk hck
    clear hck
    obtain ⟨wv, hwv⟩ : ∃ wv, waveF ws q = wv := ⟨_, rfl⟩
    have HWV := Aside0.mk hwv
    clear hwv
    have HD : Aside0 (Below w5.heap.size w5 w5.drew) := ⟨(Below.refl _ _).drew⟩
    have HC : Aside0 (∀ W, Below w5.heap.size w5 W → W.cell? ⟨b3, 0, none⟩ = some (.int .i64 b) ∧ W.cell? ⟨b3, 1, none⟩ = some (.int .i64 d) ∧ W.cell? ⟨b3, 2, none⟩ = some (.slice A ws.length c)) := ⟨fun W hW => ⟨(blk_cell (blk_below K3.out hW) 0).trans rfl, (blk_cell (blk_below K3.out hW) 1).trans rfl, (blk_cell (blk_below K3.out hW) 2).trans rfl⟩⟩
    refine start_ (n := 14) (S := fun w' => w'.cell? ⟨b3, 0, none⟩ = some (.int .i64 b) ∧ w'.cell? ⟨b3, 1, none⟩ = some (.int .i64 d) ∧ w'.cell? ⟨b3, 2, none⟩ = some (.slice A ws.length c)) (ds := []) #[false, false, false, false, false, false, false, false, false, false, false, false, false, false] (by kernel_rfl) rfl rfl (HC.out _ HD.out) (fun hHeld => ?_)
    refine take_ (i := 0) (N := some 29) (v := ?_) (a' := ?_) #[true, false, false, false, false, false, false, false, false, false, false, false, false, false] rfl rfl (by kernel_rfl) (fun _ _ _ h => h) (Or.inl ⟨by rfl, ?_⟩) hHeld ?_ ?_
    rotate_left
    · rintro w' ⟨s0, s1, s2⟩
      go_simp
      with_reducible rfl
    rotate_left
    · simp only [Act.put, List.setIfInBounds_toArray, List.set_cons_zero, List.set_cons_succ, i64_w, i32_w]
      rfl
    refine take_ (i := 2) (N := some 31) (v := ?_) (a' := ?_) #[true, false, true, false, false, false, false, false, false, false, false, false, false, false] rfl rfl (by kernel_rfl) (fun _ _ _ h => h) (Or.inl ⟨by rfl, ?_⟩) hHeld ?_ ?_
    rotate_left
    · rintro w' ⟨s0, s1, s2⟩
      go_simp
      with_reducible rfl
    rotate_left
    · simp only [Act.put, List.setIfInBounds_toArray, List.set_cons_zero, List.set_cons_succ, i64_w, i32_w]
      rfl
    refine one_ (i := 1) (N := some 30) #[true, true, true, false, false, false, false, false, false, false, false, false, false, false] rfl rfl (by kernel_rfl) (by decide) (fun K hK => ?_)
    refine goes_ Try.func30 (by kernel_rfl) rfl #[.agg #[.int .i64 b, .int .i64 d, .slice A ws.length c]] (by rfl) rfl rfl (by (try simp only [List.map_toArray, List.map_cons, List.map_nil]); first | done | rfl) ?_
    refine (check_calls b d A c ws w5.drew (Kd.C_below HCC.out (HB.out.trans (HD.out.mono HB.out.size))) hcap HZ.out).mono ?_
    rintro e w6 ⟨rfl, hb⟩
    rw [HCK.out]
    refine ⟨_, rfl, ?_⟩
    replace HD := Aside0.mk (HD.out.trans (hb.mono HD.out.size))
    clear hb
    refine hK.out _ _ (HC.out _ HD.out) (fun hHeld => ?_)
    clear hK K
    refine norm_ (a' := ?_) ?_ ?_
    rotate_left
    · show Act.put _ (some 30) _ = _
      simp only [Act.put, List.setIfInBounds_toArray, List.set_cons_zero, List.set_cons_succ, i64_w, i32_w]
      rfl
    refine one_ (i := 3) (N := some 32) #[true, true, true, true, false, false, false, false, false, false, false, false, false, false] rfl rfl (by kernel_rfl) (by decide) (fun K hK => ?_)
    refine goes_ Try.func31 (by kernel_rfl) rfl #[.agg #[.int .i64 b, .int .i64 d, .slice A ws.length c]] (by rfl) rfl rfl (by (try simp only [List.map_toArray, List.map_cons, List.map_nil]); first | done | rfl) ?_
    refine (rcheck_calls b d A c ws w6 (Kd.C_below HCC.out (HB.out.trans (HD.out.mono HB.out.size))) hcap HZ.out).mono ?_
    rintro e w7 ⟨rfl, hb⟩
    rw [HCK.out]
    refine ⟨_, rfl, ?_⟩
    replace HD := Aside0.mk (HD.out.trans (hb.mono HD.out.size))
    clear hb
    refine hK.out _ _ (HC.out _ HD.out) (fun hHeld => ?_)
    clear hK K
    refine norm_ (a' := ?_) ?_ ?_
    rotate_left
    · show Act.put _ (some 32) _ = _
      simp only [Act.put, List.setIfInBounds_toArray, List.set_cons_zero, List.set_cons_succ, i64_w, i32_w]
      rfl
    refine pure_ (i := 4) (N := some 33) (v := ?_) (a' := ?_) #[true, true, true, true, true, false, false, false, false, false, false, false, false, false] rfl rfl (by kernel_rfl) (fun _ _ _ h => h) (Or.inl ⟨by rfl, ?_⟩) ?_ ?_
    rotate_left
    · intro w'
      go_simp
      with_reducible rfl
    rotate_left
    · simp only [Act.put, List.setIfInBounds_toArray, List.set_cons_zero, List.set_cons_succ, i64_w, i32_w]
      rfl
    refine pure_ (i := 5) (N := some 34) (v := ?_) (a' := ?_) #[true, true, true, true, true, true, false, false, false, false, false, false, false, false] rfl rfl (by kernel_rfl) (fun _ _ _ h => h) (Or.inl ⟨by rfl, ?_⟩) ?_ ?_
    rotate_left
    · intro w'
      go_simp
      with_reducible rfl
    rotate_left
    · simp only [Act.put, List.setIfInBounds_toArray, List.set_cons_zero, List.set_cons_succ, i64_w, i32_w]
      rfl
    refine pure_ (i := 7) (N := some 36) (v := ?_) (a' := ?_) #[true, true, true, true, true, true, false, true, false, false, false, false, false, false] rfl rfl (by kernel_rfl) (fun _ _ _ h => h) (Or.inl ⟨by rfl, ?_⟩) ?_ ?_
    rotate_left
    · intro w'
      go_simp
      with_reducible rfl
    rotate_left
    · simp only [Act.put, List.setIfInBounds_toArray, List.set_cons_zero, List.set_cons_succ, i64_w, i32_w]
      rfl
    refine pure_ (i := 10) (N := some 39) (v := ?_) (a' := ?_) #[true, true, true, true, true, true, false, true, false, false, true, false, false, false] rfl rfl (by kernel_rfl) (fun _ _ _ h => h) (Or.inl ⟨by rfl, ?_⟩) ?_ ?_
    rotate_left
    · intro w'
      go_simp
      with_reducible rfl
    rotate_left
    · simp only [Act.put, List.setIfInBounds_toArray, List.set_cons_zero, List.set_cons_succ, i64_w, i32_w]
      rfl
    refine take_ (i := 6) (N := some 35) (v := ?_) (a' := ?_) #[true, true, true, true, true, true, true, true, false, false, true, false, false, false] rfl rfl (by kernel_rfl) (fun _ _ _ h => h) (Or.inl ⟨by rfl, ?_⟩) hHeld ?_ ?_
    rotate_left
    · rintro w' ⟨s0, s1, s2⟩
      go_simp
      with_reducible rfl
    rotate_left
    · simp only [Act.put, List.setIfInBounds_toArray, List.set_cons_zero, List.set_cons_succ, i64_w, i32_w]
      rfl
    refine take_ (i := 9) (N := some 38) (v := ?_) (a' := ?_) #[true, true, true, true, true, true, true, true, false, true, true, false, false, false] rfl rfl (by kernel_rfl) (fun _ _ _ h => h) (Or.inl ⟨by rfl, ?_⟩) hHeld ?_ ?_
    rotate_left
    · rintro w' ⟨s0, s1, s2⟩
      go_simp
      with_reducible rfl
    rotate_left
    · simp only [Act.put, List.setIfInBounds_toArray, List.set_cons_zero, List.set_cons_succ, i64_w, i32_w]
      rfl
    refine one_ (i := 8) (N := some 37) #[true, true, true, true, true, true, true, true, true, true, true, false, false, false] rfl rfl (by kernel_rfl) (by decide) (fun K hK => ?_)
    refine goes_ Try.func32 (by kernel_rfl) rfl #[.agg #[.int .i64 b, .int .i64 d, .slice A ws.length c], .int .i64 q] (by rfl) rfl rfl (by (try simp only [List.map_toArray, List.map_cons, List.map_nil]); first | done | rfl) ?_
    refine (wave_calls b d A c ws q w7 (Kd.C_below HCC.out (HB.out.trans (HD.out.mono HB.out.size))) hcap HZ.out).mono ?_
    rintro e w8 ⟨rfl, hb⟩
    rw [HWV.out]
    refine ⟨_, rfl, ?_⟩
    replace HD := Aside0.mk (HD.out.trans (hb.mono HD.out.size))
    clear hb
    refine hK.out _ _ (HC.out _ HD.out) (fun hHeld => ?_)
    clear hK K
    refine norm_ (a' := ?_) ?_ ?_
    rotate_left
    · show Act.put _ (some 37) _ = _
      simp only [Act.put, List.setIfInBounds_toArray, List.set_cons_zero, List.set_cons_succ, i64_w, i32_w]
      rfl
    refine one_ (i := 11) (N := some 40) #[true, true, true, true, true, true, true, true, true, true, true, true, false, false] rfl rfl (by kernel_rfl) (by decide) (fun K hK => ?_)
    refine goes_ Try.func33 (by kernel_rfl) rfl #[.agg #[.int .i64 b, .int .i64 d, .slice A ws.length c], .int .i64 q] (by rfl) rfl rfl (by (try simp only [List.map_toArray, List.map_cons, List.map_nil]); first | done | rfl) ?_
    refine (rwave_calls b d A c ws q w8 (Kd.C_below HCC.out (HB.out.trans (HD.out.mono HB.out.size))) hcap HZ.out).mono ?_
    rintro e w9 ⟨rfl, hb⟩
    rw [HWV.out]
    refine ⟨_, rfl, ?_⟩
    replace HD := Aside0.mk (HD.out.trans (hb.mono HD.out.size))
    clear hb
    refine hK.out _ _ (HC.out _ HD.out) (fun hHeld => ?_)
    clear hK K
    refine norm_ (a' := ?_) ?_ ?_
    rotate_left
    · show Act.put _ (some 40) _ = _
      simp only [Act.put, List.setIfInBounds_toArray, List.set_cons_zero, List.set_cons_succ, i64_w, i32_w]
      rfl
    refine pure_ (i := 12) (N := some 41) (v := ?_) (a' := ?_) #[true, true, true, true, true, true, true, true, true, true, true, true, true, false] rfl rfl (by kernel_rfl) (fun _ _ _ h => h) (Or.inl ⟨by rfl, ?_⟩) ?_ ?_
    rotate_left
    · intro w'
      go_simp
      with_reducible rfl
    rotate_left
    · simp only [Act.put, List.setIfInBounds_toArray, List.set_cons_zero, List.set_cons_succ, i64_w, i32_w]
      rfl
    refine pure_ (i := 13) (N := some 42) (v := ?_) (a' := ?_) #[true, true, true, true, true, true, true, true, true, true, true, true, true, true] rfl rfl (by kernel_rfl) (fun _ _ _ h => h) (Or.inl ⟨by rfl, ?_⟩) ?_ ?_
    rotate_left
    · intro w'
      go_simp
      with_reducible rfl
    rotate_left
    · simp only [Act.put, List.setIfInBounds_toArray, List.set_cons_zero, List.set_cons_succ, i64_w, i32_w]
      rfl
    refine done_ (by kernel_rfl) ?_
    have hb := HD.out
    clear HD HC hHeld
    replace K3 := Aside0.mk (blk_below K3.out hb)
    replace K4 := Aside0.mk (blk_below K4.out hb)
    replace HB := Aside0.mk (HB.out.trans (hb.mono HB.out.size))
    clear hb
    have K3c0 := (blk_cell K3.out 0).trans (show _ = some (.int .i64 b) from rfl)
    have K3c1 := (blk_cell K3.out 1).trans (show _ = some (.int .i64 d) from rfl)
    have K3c2 := (blk_cell K3.out 2).trans (show _ = some (.slice A ws.length c) from rfl)
    go_wp2_with fail
    refine (graph_calls b d A c ws w9 hcap (Kd.C_below HCC.out HB.out) HZ.out).mono ?_
    rintro e w10 ⟨v8, rfl, hsg, hb⟩
    have KK3 := K3
    have KK4 := K4
    have HBZ0 : Aside0 (w9.heap.size ≤ w10.heap.size) := ⟨hb.size⟩
    obtain ⟨f, hgs⟩ := Gs.of_S hsg
    obtain ⟨Ag, cg, rfl⟩ := Kd.S_slice hsg
    rw [List.length_map] at hgs ⊢
    have HGS := Aside0.mk hgs
    have HBS : Aside0 (w.heap.size ≤ w9.heap.size) := ⟨HB.out.size⟩
    clear hsg hgs
    clear K3c0 K3c1 K3c2
    replace K3 := Aside0.mk (blk_below K3.out hb)
    replace K4 := Aside0.mk (blk_below K4.out hb)
    replace HB := Aside0.mk (HB.out.trans (hb.mono HB.out.size))
    clear hb
    obtain ⟨B, hB⟩ : ∃ B, w9.heap.size = B := ⟨_, rfl⟩
    rw [hB] at HGS HBS HBZ0
    have HK3 : Aside0 (b3 < B) := ⟨by rw [← hB]; exact blk_lt KK3.out⟩
    have HK4 : Aside0 (b4 < B) := ⟨by rw [← hB]; exact blk_lt KK4.out⟩
    clear hB KK3 KK4
    obtain ⟨L, hL⟩ : ∃ L, ws.length = L := ⟨_, rfl⟩
    have HLL := Aside0.mk hL
    rw [hL] at HGS hnl K3 hcap ⊢
    clear hL
    have K3c0 := (blk_cell K3.out 0).trans (show _ = some (.int .i64 b) from rfl)
    have K3c1 := (blk_cell K3.out 1).trans (show _ = some (.int .i64 d) from rfl)
    have K3c2 := (blk_cell K3.out 2).trans (show _ = some (.slice A L c) from rfl)
    go_wp2_with fail
    clear K3c0 K3c1 K3c2
    have HBZ : Aside0 (B ≤ w10.heap.size) := HBZ0
    go_loopg [9, 10, 11] L (fun kq v9 v10 v11 wr => ∃ (i : Nat) (gs : List (List Int)), v10 = .int .i64 i ∧ i + kq = L ∧ v9 = .int .i64 ((clus (ws.take i)).length : Nat) ∧ Aside0 (Gs wr B (.slice Ag L cg) gs f) ∧ Aside0 (gs.length = L) ∧ Aside0 (gs.drop i = (ws.map (·.f0)).drop i) ∧ Aside0 (wr.heap[b3]? = some (.cells #[.int .i64 b, .int .i64 d, .slice A L c] 43 (0, 0))) ∧ Aside0 (wr.heap[b4]? = some (.cells #[.int .i64 b2, .int .i64 d2, .slice A2 ws2.length c2] 43 (0, 0))) ∧ Aside0 (B ≤ wr.heap.size) ∧ Aside0 (Below w.heap.size w wr))
    case atStart => exact ⟨0, _, rfl, by omega, rfl, HGS, ⟨by rw [List.length_map]; exact HLL.out⟩, ⟨rfl⟩, K3, K4, HBZ, HB⟩
    case round =>
      clear HGS K3 K4 HBZ HB
      obtain ⟨i, gs, rfl, hi, rfl, HGS, HGL, HGD, K3, K4, HBZ, HB⟩ := hrel
      by_cases hlt : i < L
      ·
        have hlt' : (i : Int) < (L : Int) := by omega
        have hlw : i < ws.length := by rw [HLL.out]; exact hlt
        have hlt2 : (i : Int) < (ws.length : Int) := by omega
        obtain ⟨ad, A0, c0, A1, c1, ea, HY0, HY1, l0, l1, HG0, HG1⟩ : ∃ ad A0 c0 A1 c1, A = some ad ∧ Aside0 (∀ W, Below w.heap.size w W → W.cell? (ad.add (i * 3)) = some (.slice A0 ws[i].f0.length c0)) ∧ Aside0 (∀ W, Below w.heap.size w W → W.cell? ⟨(ad.add (i * 3)).block, (ad.add (i * 3)).off + 1, none⟩ = some (.slice A1 ws[i].f1.length c1)) ∧ ws[i].f0.length ≤ c0 ∧ ws[i].f1.length ≤ c1 ∧ Aside0 ((Kd.int .i64).C w A0 ws[i].f0.length ws[i].f0) ∧ Aside0 ((Kd.int .i64).C w A1 ws[i].f1.length ws[i].f1) := by
          obtain ⟨ad, A0, c0, A1, c1, ea, y0, y1, y2, l0, g0, l1, g1⟩ := at_T51 HCC.out i (by omega) hlt2
          rw [at51 ws hlw] at y0 y1 y2 l0 g0 l1 g1
          simp only [Int.toNat_natCast] at y0 y1 y2
          exact ⟨ad, A0, c0, A1, c1, ea, ⟨fun W hW => pw_cell_below hW y0⟩, ⟨fun W hW => pw_cell_below hW y1⟩, l0, l1, ⟨g0⟩, ⟨g1⟩⟩
        subst ea
        have HGX : Aside0 (gs[i]? = some ws[i].f0) := ⟨by have := drop_head HGD.out (by rw [List.length_map]; exact hlw); rwa [List.getElem_map] at this⟩
        have HTL := Aside0.mk (drop_tail HGD.out)
        have HCS := Aside0.mk (clus_snoc ws hlw)
        have hcl := clus_le ws (i + 1)
        rw [HCS.out, List.length_append] at hcl
        have hza := HZ.out.all
        have hri := HZ.out.rows _ (List.getElem_mem hlw)
        generalize hnn : (clus (ws.take i)).length = n at *
        have HNN := Aside0.mk hnn
        clear hnn
        obtain ⟨l, hl⟩ : ∃ l, ws[i].f0 = l := ⟨_, rfl⟩
        rw [hl] at HY0 l0 HG0 HGX hri
        have HLE := Aside0.mk hl
        clear hl
        obtain ⟨gg, cap, cells, vr, ev, hBg, ho, he, e0, hr, yg⟩ := HGS.out.at HGX.out
        have HYG := Aside0.mk yg
        have hln : l.length ≤ 9223372036854775807 := by omega
        obtain ⟨Ar, cr, rfl⟩ := Kd.R_slice hr
        clear ho he e0 hr yg
        rw [HGL.out] at ev
        simp only [Value.slice.injEq, true_and] at ev
        obtain ⟨rfl, rfl⟩ := ev
        obtain ⟨ag, hag⟩ : ∃ ag : Addr, ag = ⟨gg, 0, none⟩ := ⟨_, rfl⟩
        have HAG := Aside0.mk hag
        rw [← hag] at HGS ⊢
        replace HYG : Aside0 (wr.cell? (ag.add i) = some (.slice Ar l.length cr)) := ⟨by rw [hag, add_plain]; exact HYG.out⟩
        clear hag hBg
        go_upto_region 13 with fail
        have HD : Aside0 (Below wr.heap.size wr wr.drew) := ⟨(Below.refl _ _).drew⟩
        have HC : Aside0 (∀ W, Below wr.heap.size wr W → W.cell? (ag.add i) = some (.slice Ar l.length cr) ∧ W.cell? ⟨b3, 2, none⟩ = some (.slice (some ad) L c) ∧ W.cell? (ad.add (i * 3)) = some (.slice A0 l.length c0)) := ⟨fun W hW => ⟨pw_cell_below hW HYG.out, (blk_cell (blk_below K3.out hW) 2).trans rfl, HY0.out W (HB.out.trans (hW.mono HB.out.size))⟩⟩
        refine start_ (n := 13) (S := fun w' => w'.cell? (ag.add i) = some (.slice Ar l.length cr) ∧ w'.cell? ⟨b3, 2, none⟩ = some (.slice (some ad) L c) ∧ w'.cell? (ad.add (i * 3)) = some (.slice A0 l.length c0)) (ds := []) #[false, false, false, false, false, false, false, false, false, false, false, false, false] (by kernel_rfl) rfl rfl (HC.out _ HD.out) (fun hHeld => ?_)
        refine pure_ (i := 0) (N := some 57) (v := ?_) (a' := ?_) #[true, false, false, false, false, false, false, false, false, false, false, false, false] rfl rfl (by kernel_rfl) (fun _ _ _ h => h) (Or.inl ⟨by rfl, ?_⟩) ?_ ?_
        rotate_left
        · intro w'
          go_simp
          with_reducible rfl
        rotate_left
        · simp only [Act.put, List.setIfInBounds_toArray, List.set_cons_zero, List.set_cons_succ, i64_w, i32_w]
          rfl
        refine pure_ (i := 1) (N := some 58) (v := ?_) (a' := ?_) #[true, true, false, false, false, false, false, false, false, false, false, false, false] rfl rfl (by kernel_rfl) (fun _ _ _ h => h) (Or.inl ⟨by rfl, ?_⟩) ?_ ?_
        rotate_left
        · intro w'
          go_simp
          with_reducible rfl
        rotate_left
        · simp only [Act.put, List.setIfInBounds_toArray, List.set_cons_zero, List.set_cons_succ, i64_w, i32_w]
          rfl
        refine pure_ (i := 2) (N := some 59) (v := ?_) (a' := ?_) #[true, true, true, false, false, false, false, false, false, false, false, false, false] rfl rfl (by kernel_rfl) (fun _ _ _ h => h) (Or.inl ⟨by rfl, ?_⟩) ?_ ?_
        rotate_left
        · intro w'
          go_simp
          with_reducible rfl
        rotate_left
        · simp only [Act.put, List.setIfInBounds_toArray, List.set_cons_zero, List.set_cons_succ, i64_w, i32_w]
          rfl
        refine pure_ (i := 5) (N := some 62) (v := ?_) (a' := ?_) #[true, true, true, false, false, true, false, false, false, false, false, false, false] rfl rfl (by kernel_rfl) (fun _ _ _ h => h) (Or.inl ⟨by rfl, ?_⟩) ?_ ?_
        rotate_left
        · intro w'
          go_simp
          with_reducible rfl
        rotate_left
        · simp only [Act.put, List.setIfInBounds_toArray, List.set_cons_zero, List.set_cons_succ, i64_w, i32_w]
          rfl
        refine pure_ (i := 7) (N := some 64) (v := ?_) (a' := ?_) #[true, true, true, false, false, true, false, true, false, false, false, false, false] rfl rfl (by kernel_rfl) (fun _ _ _ h => h) (Or.inl ⟨by rfl, ?_⟩) ?_ ?_
        rotate_left
        · intro w'
          go_simp
          with_reducible rfl
        rotate_left
        · simp only [Act.put, List.setIfInBounds_toArray, List.set_cons_zero, List.set_cons_succ, i64_w, i32_w]
          rfl
        refine take_ (i := 3) (N := some 60) (v := ?_) (a' := ?_) #[true, true, true, true, false, true, false, true, false, false, false, false, false] rfl rfl (by kernel_rfl) (fun _ _ _ h => h) (Or.inl ⟨by rfl, ?_⟩) hHeld ?_ ?_
        rotate_left
        · rintro w' ⟨s0, s1, s2⟩
          go_simp
          with_reducible rfl
        rotate_left
        · simp only [Act.put, List.setIfInBounds_toArray, List.set_cons_zero, List.set_cons_succ, i64_w, i32_w]
          rfl
        refine pure_ (i := 4) (N := some 61) (v := ?_) (a' := ?_) #[true, true, true, true, true, true, false, true, false, false, false, false, false] rfl rfl (by kernel_rfl) (fun _ _ _ h => h) (Or.inl ⟨by rfl, ?_⟩) ?_ ?_
        rotate_left
        · intro w'
          go_simp
          with_reducible rfl
        rotate_left
        · simp only [Act.put, List.setIfInBounds_toArray, List.set_cons_zero, List.set_cons_succ, i64_w, i32_w]
          rfl
        refine take_ (i := 6) (N := some 63) (v := ?_) (a' := ?_) #[true, true, true, true, true, true, true, true, false, false, false, false, false] rfl rfl (by kernel_rfl) (fun _ _ _ h => h) (Or.inl ⟨by rfl, ?_⟩) hHeld ?_ ?_
        rotate_left
        · rintro w' ⟨s0, s1, s2⟩
          go_simp
          with_reducible rfl
        rotate_left
        · simp only [Act.put, List.setIfInBounds_toArray, List.set_cons_zero, List.set_cons_succ, i64_w, i32_w]
          rfl
        refine pure_ (i := 8) (N := some 65) (v := ?_) (a' := ?_) #[true, true, true, true, true, true, true, true, true, false, false, false, false] rfl rfl (by kernel_rfl) (fun _ _ _ h => h) (Or.inl ⟨by rfl, ?_⟩) ?_ ?_
        rotate_left
        · intro w'
          go_simp
          with_reducible rfl
        rotate_left
        · simp only [Act.put, List.setIfInBounds_toArray, List.set_cons_zero, List.set_cons_succ, i64_w, i32_w]
          rfl
        refine pure_ (i := 9) (N := some 66) (v := ?_) (a' := ?_) #[true, true, true, true, true, true, true, true, true, true, false, false, false] rfl rfl (by kernel_rfl) (fun _ _ _ h => h) (Or.inl ⟨by rfl, ?_⟩) ?_ ?_
        rotate_left
        · intro w'
          go_simp
          with_reducible rfl
        rotate_left
        · simp only [Act.put, List.setIfInBounds_toArray, List.set_cons_zero, List.set_cons_succ, i64_w, i32_w]
          rfl
        refine take_ (i := 10) (N := some 67) (v := ?_) (a' := ?_) #[true, true, true, true, true, true, true, true, true, true, true, false, false] rfl rfl (by kernel_rfl) (fun _ _ _ h => h) (Or.inl ⟨by rfl, ?_⟩) hHeld ?_ ?_
        rotate_left
        · rintro w' ⟨s0, s1, s2⟩
          go_simp
          with_reducible rfl
        rotate_left
        · simp only [Act.put, List.setIfInBounds_toArray, List.set_cons_zero, List.set_cons_succ, i64_w, i32_w]
          rfl
        refine pure_ (i := 11) (N := some 68) (v := ?_) (a' := ?_) #[true, true, true, true, true, true, true, true, true, true, true, true, false] rfl rfl (by kernel_rfl) (fun _ _ _ h => h) (Or.inl ⟨by rfl, ?_⟩) ?_ ?_
        rotate_left
        · intro w'
          go_simp
          with_reducible rfl
        rotate_left
        · simp only [Act.put, List.setIfInBounds_toArray, List.set_cons_zero, List.set_cons_succ, i64_w, i32_w]
          rfl
        refine pure_ (i := 12) (N := some 69) (v := ?_) (a' := ?_) #[true, true, true, true, true, true, true, true, true, true, true, true, true] rfl rfl (by kernel_rfl) (fun _ _ _ h => h) (Or.inl ⟨by rfl, ?_⟩) ?_ ?_
        rotate_left
        · intro w'
          go_simp
          with_reducible rfl
        rotate_left
        · simp only [Act.put, List.setIfInBounds_toArray, List.set_cons_zero, List.set_cons_succ, i64_w, i32_w]
          rfl
        refine done_ (by kernel_rfl) ?_
        have HBZ2 : Aside0 (B ≤ wr.drew.heap.size) := ⟨HBZ.out⟩
        have hb := HD.out
        clear HD HC hHeld
        replace K3 := Aside0.mk (blk_below K3.out hb)
        replace K4 := Aside0.mk (blk_below K4.out hb)
        replace HGS := Aside0.mk (HGS.out.below hb)
        replace HYG := Aside0.mk (pw_cell_below hb HYG.out)
        replace HB := Aside0.mk (HB.out.trans (hb.mono HB.out.size))
        clear hb
        generalize wr.drew = wq at *
        go_wp2_with fail
        go_loopg [11] l.length (fun kq v11 wr => ∃ (k : Nat) (gs : List (List Int)) (row : List Int), v11 = .int .i64 k ∧ k + kq = l.length ∧ Aside0 (Gs wr B (.slice (some ag) L cg) gs f) ∧ Aside0 (gs.length = L) ∧ Aside0 (gs[i]? = some row) ∧ Aside0 (row.length = l.length) ∧ Aside0 (row.drop k = l.drop k) ∧ Aside0 (gs.drop (i + 1) = (ws.map (·.f0)).drop (i + 1)) ∧ Aside0 (wr.heap[b3]? = some (.cells #[.int .i64 b, .int .i64 d, .slice (some ad) L c] 43 (0, 0))) ∧ Aside0 (wr.heap[b4]? = some (.cells #[.int .i64 b2, .int .i64 d2, .slice A2 ws2.length c2] 43 (0, 0))) ∧ Aside0 (B ≤ wr.heap.size) ∧ Aside0 (Below w.heap.size w wr))
        case atStart => exact ⟨0, gs, l, rfl, by omega, HGS, HGL, HGX, ⟨rfl⟩, ⟨rfl⟩, HTL, K3, K4, HBZ2, HB⟩
        case round =>
          clear HGS HGL HGX HTL K3 K4 HBZ HBZ2 HB HYG HGD
          obtain ⟨k, gs, row, rfl, hk, HGS, HGL, HGX, HRL, HRD, HTL, K3, K4, HBZ, HB⟩ := hrel
          obtain ⟨gg', cap', cells, vr, ev, hBg, ho, he, e0, hr, yg⟩ := HGS.out.at HGX.out
          rw [HGL.out] at ev
          simp only [Value.slice.injEq, true_and, Option.some.injEq] at ev
          obtain ⟨ea, rfl⟩ := ev
          have hgg : gg' = gg := by rw [HAG.out] at ea; cases ea; rfl
          subst hgg
          obtain ⟨Ar, cr, rfl⟩ := Kd.R_slice hr
          rw [HRL.out] at hr yg e0
          have HYG : Aside0 (wr.cell? (ag.add i) = some (.slice Ar l.length cr)) := ⟨by rw [HAG.out, add_plain]; exact yg⟩
          have HO : Aside0 (wr.ownsRow B 25 1 (.slice (some ⟨gg', 0, none⟩) L cg) gs.length cells) := ⟨by rw [← HAG.out]; exact ho⟩
          have HE := Aside0.mk he
          have HE0 := Aside0.mk e0
          have HR := Aside0.mk hr
          clear ho he e0 hr yg ea hBg
          by_cases hlk : k < l.length
          ·
            have hlk' : (k : Int) < (l.length : Int) := by omega
            have hklr : k < row.length := by rw [HRL.out]; exact hlk
            obtain ⟨pd, ep, z0⟩ := Kd.at_int HG0.out k (by omega) hlk'
            subst ep
            simp only [Int.toNat_natCast] at z0
            rw [rd_at l hlk] at z0
            have HZ0 : Aside0 (∀ W, Below w.heap.size w W → W.cell? (pd.add k) = some (.int .i64 l[k])) := ⟨fun W hW => pw_cell_below hW z0⟩
            have hrk : row.getD k 0 = l[k] := by
              have := congrArg (·[0]?) HRD.out
              simp only [List.getElem?_drop, Nat.add_zero] at this
              rw [List.getD_eq_getElem?_getD, this, List.getElem?_eq_getElem hlk]
              rfl
            have HRD2 : Aside0 ((row.set k (-9)).drop (k + 1) = l.drop (k + 1)) := ⟨by
              rw [List.drop_set, if_pos (by omega), ← List.drop_drop, ← List.drop_drop, HRD.out]⟩
            obtain ⟨gr, capr, evr, _, _, _⟩ := Kd.R_form HR.out (by rw [HRL.out]; omega)
            rw [HRL.out] at evr
            cases evr
            obtain ⟨ar, har⟩ : ∃ ar : Addr, ar = ⟨gr, 0, none⟩ := ⟨_, rfl⟩
            have HAR := Aside0.mk har
            have HRA := Aside0.mk (row_at HR.out HRL.out.symm (i := k) hlk)
            rw [hrk] at HRA
            have HYR : Aside0 (wr.cell? (ar.add k) = some (.int .i64 l[k])) := ⟨by rw [har, add_plain]; exact HRA.out.1⟩
            rw [← har] at HYG
            clear z0 hrk
            generalize l[k] = y at HZ0 HYR HRA
            have yg := HYG.out
            clear har
            have K3c0 := (blk_cell K3.out 0).trans (show _ = some (.int .i64 b) from rfl)
            have K3c1 := (blk_cell K3.out 1).trans (show _ = some (.int .i64 d) from rfl)
            have K3c2 := (blk_cell K3.out 2).trans (show _ = some (.slice (some ad) L c) from rfl)
            go_upto_region 18 with fail
            clear yg
            clear K3c0 K3c1 K3c2
            have HD : Aside0 (Below wr.heap.size wr wr.drew) := ⟨(Below.refl _ _).drew⟩
            have HC : Aside0 (∀ W, Below wr.heap.size wr W → W.cell? (ag.add i) = some (.slice (some ar) l.length cr) ∧ W.cell? (ar.add k) = some (.int .i64 y) ∧ W.cell? ⟨b3, 2, none⟩ = some (.slice (some ad) L c) ∧ W.cell? (ad.add (i * 3)) = some (.slice (some pd) l.length c0) ∧ W.cell? (pd.add k) = some (.int .i64 y)) := ⟨fun W hW => ⟨pw_cell_below hW HYG.out, pw_cell_below hW HYR.out, (blk_cell (blk_below K3.out hW) 2).trans rfl, HY0.out W (HB.out.trans (hW.mono HB.out.size)), HZ0.out W (HB.out.trans (hW.mono HB.out.size))⟩⟩
            refine start_ (n := 17) (S := fun w' => w'.cell? (ag.add i) = some (.slice (some ar) l.length cr) ∧ w'.cell? (ar.add k) = some (.int .i64 y) ∧ w'.cell? ⟨b3, 2, none⟩ = some (.slice (some ad) L c) ∧ w'.cell? (ad.add (i * 3)) = some (.slice (some pd) l.length c0) ∧ w'.cell? (pd.add k) = some (.int .i64 y)) (ds := []) #[false, false, false, false, false, false, false, false, false, false, false, false, false, false, false, false, false] (by kernel_rfl) rfl rfl (HC.out _ HD.out) (fun hHeld => ?_)
            refine pure_ (i := 0) (N := some 79) (v := ?_) (a' := ?_) #[true, false, false, false, false, false, false, false, false, false, false, false, false, false, false, false, false] rfl rfl (by kernel_rfl) (fun _ _ _ h => h) (Or.inl ⟨by rfl, ?_⟩) ?_ ?_
            rotate_left
            · intro w'
              go_simp
              with_reducible rfl
            rotate_left
            · simp only [Act.put, List.setIfInBounds_toArray, List.set_cons_zero, List.set_cons_succ, i64_w, i32_w]
              rfl
            refine pure_ (i := 1) (N := some 80) (v := ?_) (a' := ?_) #[true, true, false, false, false, false, false, false, false, false, false, false, false, false, false, false, false] rfl rfl (by kernel_rfl) (fun _ _ _ h => h) (Or.inl ⟨by rfl, ?_⟩) ?_ ?_
            rotate_left
            · intro w'
              go_simp
              with_reducible rfl
            rotate_left
            · simp only [Act.put, List.setIfInBounds_toArray, List.set_cons_zero, List.set_cons_succ, i64_w, i32_w]
              rfl
            refine pure_ (i := 2) (N := some 81) (v := ?_) (a' := ?_) #[true, true, true, false, false, false, false, false, false, false, false, false, false, false, false, false, false] rfl rfl (by kernel_rfl) (fun _ _ _ h => h) (Or.inl ⟨by rfl, ?_⟩) ?_ ?_
            rotate_left
            · intro w'
              go_simp
              with_reducible rfl
            rotate_left
            · simp only [Act.put, List.setIfInBounds_toArray, List.set_cons_zero, List.set_cons_succ, i64_w, i32_w]
              rfl
            refine pure_ (i := 4) (N := some 83) (v := ?_) (a' := ?_) #[true, true, true, false, true, false, false, false, false, false, false, false, false, false, false, false, false] rfl rfl (by kernel_rfl) (fun _ _ _ h => h) (Or.inl ⟨by rfl, ?_⟩) ?_ ?_
            rotate_left
            · intro w'
              go_simp
              with_reducible rfl
            rotate_left
            · simp only [Act.put, List.setIfInBounds_toArray, List.set_cons_zero, List.set_cons_succ, i64_w, i32_w]
              rfl
            refine pure_ (i := 7) (N := some 86) (v := ?_) (a' := ?_) #[true, true, true, false, true, false, false, true, false, false, false, false, false, false, false, false, false] rfl rfl (by kernel_rfl) (fun _ _ _ h => h) (Or.inl ⟨by rfl, ?_⟩) ?_ ?_
            rotate_left
            · intro w'
              go_simp
              with_reducible rfl
            rotate_left
            · simp only [Act.put, List.setIfInBounds_toArray, List.set_cons_zero, List.set_cons_succ, i64_w, i32_w]
              rfl
            refine pure_ (i := 9) (N := some 88) (v := ?_) (a' := ?_) #[true, true, true, false, true, false, false, true, false, true, false, false, false, false, false, false, false] rfl rfl (by kernel_rfl) (fun _ _ _ h => h) (Or.inl ⟨by rfl, ?_⟩) ?_ ?_
            rotate_left
            · intro w'
              go_simp
              with_reducible rfl
            rotate_left
            · simp only [Act.put, List.setIfInBounds_toArray, List.set_cons_zero, List.set_cons_succ, i64_w, i32_w]
              rfl
            refine pure_ (i := 13) (N := some 92) (v := ?_) (a' := ?_) #[true, true, true, false, true, false, false, true, false, true, false, false, false, true, false, false, false] rfl rfl (by kernel_rfl) (fun _ _ _ h => h) (Or.inl ⟨by rfl, ?_⟩) ?_ ?_
            rotate_left
            · intro w'
              go_simp
              with_reducible rfl
            rotate_left
            · simp only [Act.put, List.setIfInBounds_toArray, List.set_cons_zero, List.set_cons_succ, i64_w, i32_w]
              rfl
            refine take_ (i := 3) (N := some 82) (v := ?_) (a' := ?_) #[true, true, true, true, true, false, false, true, false, true, false, false, false, true, false, false, false] rfl rfl (by kernel_rfl) (fun _ _ _ h => h) (Or.inl ⟨by rfl, ?_⟩) hHeld ?_ ?_
            rotate_left
            · rintro w' ⟨s0, s1, s2, s3, s4⟩
              go_simp
              with_reducible rfl
            rotate_left
            · simp only [Act.put, List.setIfInBounds_toArray, List.set_cons_zero, List.set_cons_succ, i64_w, i32_w]
              rfl
            refine pure_ (i := 5) (N := some 84) (v := ?_) (a' := ?_) #[true, true, true, true, true, true, false, true, false, true, false, false, false, true, false, false, false] rfl rfl (by kernel_rfl) (fun _ _ _ h => h) (Or.inl ⟨by rfl, ?_⟩) ?_ ?_
            rotate_left
            · intro w'
              go_simp
              with_reducible rfl
            rotate_left
            · simp only [Act.put, List.setIfInBounds_toArray, List.set_cons_zero, List.set_cons_succ, i64_w, i32_w]
              rfl
            refine take_ (i := 6) (N := some 85) (v := ?_) (a' := ?_) #[true, true, true, true, true, true, true, true, false, true, false, false, false, true, false, false, false] rfl rfl (by kernel_rfl) (fun _ _ _ h => h) (Or.inl ⟨by rfl, ?_⟩) hHeld ?_ ?_
            rotate_left
            · rintro w' ⟨s0, s1, s2, s3, s4⟩
              go_simp
              with_reducible rfl
            rotate_left
            · simp only [Act.put, List.setIfInBounds_toArray, List.set_cons_zero, List.set_cons_succ, i64_w, i32_w]
              rfl
            refine take_ (i := 8) (N := some 87) (v := ?_) (a' := ?_) #[true, true, true, true, true, true, true, true, true, true, false, false, false, true, false, false, false] rfl rfl (by kernel_rfl) (fun _ _ _ h => h) (Or.inl ⟨by rfl, ?_⟩) hHeld ?_ ?_
            rotate_left
            · rintro w' ⟨s0, s1, s2, s3, s4⟩
              go_simp
              with_reducible rfl
            rotate_left
            · simp only [Act.put, List.setIfInBounds_toArray, List.set_cons_zero, List.set_cons_succ, i64_w, i32_w]
              rfl
            refine pure_ (i := 10) (N := some 89) (v := ?_) (a' := ?_) #[true, true, true, true, true, true, true, true, true, true, true, false, false, true, false, false, false] rfl rfl (by kernel_rfl) (fun _ _ _ h => h) (Or.inl ⟨by rfl, ?_⟩) ?_ ?_
            rotate_left
            · intro w'
              go_simp
              with_reducible rfl
            rotate_left
            · simp only [Act.put, List.setIfInBounds_toArray, List.set_cons_zero, List.set_cons_succ, i64_w, i32_w]
              rfl
            refine pure_ (i := 11) (N := some 90) (v := ?_) (a' := ?_) #[true, true, true, true, true, true, true, true, true, true, true, true, false, true, false, false, false] rfl rfl (by kernel_rfl) (fun _ _ _ h => h) (Or.inl ⟨by rfl, ?_⟩) ?_ ?_
            rotate_left
            · intro w'
              go_simp
              with_reducible rfl
            rotate_left
            · simp only [Act.put, List.setIfInBounds_toArray, List.set_cons_zero, List.set_cons_succ, i64_w, i32_w]
              rfl
            refine take_ (i := 12) (N := some 91) (v := ?_) (a' := ?_) #[true, true, true, true, true, true, true, true, true, true, true, true, true, true, false, false, false] rfl rfl (by kernel_rfl) (fun _ _ _ h => h) (Or.inl ⟨by rfl, ?_⟩) hHeld ?_ ?_
            rotate_left
            · rintro w' ⟨s0, s1, s2, s3, s4⟩
              go_simp
              with_reducible rfl
            rotate_left
            · simp only [Act.put, List.setIfInBounds_toArray, List.set_cons_zero, List.set_cons_succ, i64_w, i32_w]
              rfl
            refine pure_ (i := 14) (N := some 93) (v := ?_) (a' := ?_) #[true, true, true, true, true, true, true, true, true, true, true, true, true, true, true, false, false] rfl rfl (by kernel_rfl) (fun _ _ _ h => h) (Or.inl ⟨by rfl, ?_⟩) ?_ ?_
            rotate_left
            · intro w'
              go_simp
              with_reducible rfl
            rotate_left
            · simp only [Act.put, List.setIfInBounds_toArray, List.set_cons_zero, List.set_cons_succ, i64_w, i32_w]
              rfl
            refine take_ (i := 15) (N := some 94) (v := ?_) (a' := ?_) #[true, true, true, true, true, true, true, true, true, true, true, true, true, true, true, true, false] rfl rfl (by kernel_rfl) (fun _ _ _ h => h) (Or.inl ⟨by rfl, ?_⟩) hHeld ?_ ?_
            rotate_left
            · rintro w' ⟨s0, s1, s2, s3, s4⟩
              go_simp
              with_reducible rfl
            rotate_left
            · simp only [Act.put, List.setIfInBounds_toArray, List.set_cons_zero, List.set_cons_succ, i64_w, i32_w]
              rfl
            refine pure_ (i := 16) (N := some 95) (v := ?_) (a' := ?_) #[true, true, true, true, true, true, true, true, true, true, true, true, true, true, true, true, true] rfl rfl (by kernel_rfl) (fun _ _ _ h => h) (Or.inl ⟨by rfl, ?_⟩) ?_ ?_
            rotate_left
            · intro w'
              go_simp
              with_reducible rfl
            rotate_left
            · simp only [Act.put, List.setIfInBounds_toArray, List.set_cons_zero, List.set_cons_succ, i64_w, i32_w]
              rfl
            refine done_ (by kernel_rfl) ?_
            clear HC HD hHeld
            have yg : wr.drew.cell? (ag.add i) = some (.slice (some ar) l.length cr) := HYG.out
            have yr : wr.drew.cell? (ar.add k) = some (.int .i64 y) := HYR.out
            have yf : wr.drew.frozen? (ar.add k) = false := by rw [HAR.out, add_plain]; exact HRA.out.2
            have yn : wr.frozen? (ar.add k) = false := yf
            have yg2 := HYG.out
            have yr2 := HYR.out
            go_wp2_with fail
            clear yg yr yf yn yg2 yr2
            have HRP := Aside0.mk (row_put HR.out HRL.out.symm (i := k) hlk (-9))
            have HGB : Aside0 (wr.grownBy (wr.setCell ⟨gr, k, none⟩ (.int .i64 (-9))) (some gr)) := ⟨⟨rfl, rfl, rfl, by simp [World.setCell], fun b hb hne => Below.heap_setCell _ _ _ b (fun e => hne (by rw [e]))⟩⟩
            have HTN := Aside0.mk (Gs.turn HO.out HE.out HGX.out HE0.out HGB.out HRP.out)
            have HGR : Aside0 (B ≤ gr) := ⟨Kd.R_base HR.out gr rfl⟩
            have HBN : Aside0 (Below w.heap.size w (wr.setCell ⟨gr, k, none⟩ (.int .i64 (-9))).drew) := ⟨(HB.out.setCell (p := ⟨gr, k, none⟩) (Nat.le_trans HBS.out HGR.out) _).drew⟩
            have K3N : Aside0 ((wr.setCell ⟨gr, k, none⟩ (.int .i64 (-9))).heap[b3]? = some (.cells #[.int .i64 b, .int .i64 d, .slice (some ad) L c] 43 (0, 0))) := ⟨blk_far K3.out (p := ⟨gr, k, none⟩) (by have := HK3.out; have := HGR.out; show b3 ≠ gr; omega) _⟩
            have K4N : Aside0 ((wr.setCell ⟨gr, k, none⟩ (.int .i64 (-9))).heap[b4]? = some (.cells #[.int .i64 b2, .int .i64 d2, .slice A2 ws2.length c2] 43 (0, 0))) := ⟨blk_far K4.out (p := ⟨gr, k, none⟩) (by have := HK4.out; have := HGR.out; show b4 ≠ gr; omega) _⟩
            have HBZN : Aside0 (B ≤ (wr.setCell ⟨gr, k, none⟩ (.int .i64 (-9))).heap.size) := ⟨by simpa [World.setCell] using HBZ.out⟩
            have HWE : Aside0 (wr.setCell (ar.add k) (.int .i64 (-9)) = wr.setCell ⟨gr, k, none⟩ (.int .i64 (-9))) := ⟨by rw [HAR.out, add_plain]⟩
            have HGSN : Aside0 (Gs (wr.setCell ⟨gr, k, none⟩ (.int .i64 (-9))) B (.slice (some ag) L cg) (gs.set i (row.set k (-9))) f) := ⟨by rw [HAG.out]; exact HTN.out⟩
            have HGLN : Aside0 ((gs.set i (row.set k (-9))).length = L) := ⟨by rw [List.length_set]; exact HGL.out⟩
            have HGXN : Aside0 ((gs.set i (row.set k (-9)))[i]? = some (row.set k (-9))) := ⟨List.getElem?_set_self (by rw [HGL.out]; exact hlt)⟩
            have HRLN : Aside0 ((row.set k (-9)).length = l.length) := ⟨by rw [List.length_set]; exact HRL.out⟩
            have HTLN : Aside0 ((gs.set i (row.set k (-9))).drop (i + 1) = (ws.map (·.f0)).drop (i + 1)) := ⟨by rw [drop_set_lt _ (by omega)]; exact HTL.out⟩
            rw [HWE.out]
            go_roundg (l.length - (k + 1))
            case measure => omega
            case rel => exact ⟨k + 1, _, _, by go_num, by omega, HGSN, HGLN, HGXN, HRLN, HRD2, HTLN, K3N, K4N, HBZN, HBN⟩
          ·
            have hge : decide (k < l.length) = false := decide_eq_false hlk
            have yg := HYG.out
            have y1 := HY1.out _ HB.out
            have HLN : Aside0 ((clus (ws.take (i + 1))).length = n + ws[i].f1.length) := ⟨by rw [HCS.out, List.length_append, HNN.out]⟩
            generalize ws[i].f1.length = n1 at *
            have hm1 : n1 ≤ 9223372036854775807 := by omega
            have K3c0 := (blk_cell K3.out 0).trans (show _ = some (.int .i64 b) from rfl)
            have K3c1 := (blk_cell K3.out 1).trans (show _ = some (.int .i64 d) from rfl)
            have K3c2 := (blk_cell K3.out 2).trans (show _ = some (.slice (some ad) L c) from rfl)
            go_wp2_with fail
            clear K3c0 K3c1 K3c2
            clear yg y1 hge
            rw [HAG.out] at HGS ⊢
            go_roundg (L - (i + 1))
            case measure => omega
            case rel => exact ⟨i + 1, gs, by go_num, by omega, by rw [HLN.out]; go_num, HGS, HGL, HTL, K3, K4, HBZ, HB⟩
      ·
        have hge : decide (i < L) = false := decide_eq_false hlt
        have ht : ws.take i = ws := List.take_of_length_le (by rw [HLL.out]; omega)
        rw [ht]
        obtain ⟨NC, hNC⟩ : ∃ NC, (clus ws).length = NC := ⟨_, rfl⟩
        have HNC := Aside0.mk hNC
        rw [hNC]
        have hnc : NC ≤ 600 := by have := HBD.out.2.2; have := HS1.out; omega
        clear ht hNC hlt hi HGD HGS HGL
        have K3c0 := (blk_cell K3.out 0).trans (show _ = some (.int .i64 b) from rfl)
        have K3c1 := (blk_cell K3.out 1).trans (show _ = some (.int .i64 d) from rfl)
        have K3c2 := (blk_cell K3.out 2).trans (show _ = some (.slice A L c) from rfl)
        go_wp2_with fail
        clear hge
        have hbx : Below wr.heap.size wr (wr.alloc (Obj.cells #[.int .i64 b, .int .i64 d, .slice A L c] 43)) := (Below.refl _ wr).alloc (Nat.le_refl _) _
        have K5 := Aside0.mk (grown_new (w := wr) #[.int .i64 b, .int .i64 d, .slice A L c] 43)
        obtain ⟨b5, hb5⟩ : ∃ b, wr.heap.size = b := ⟨_, rfl⟩
        clear K3c0 K3c1 K3c2
        replace K3 := Aside0.mk (blk_below K3.out hbx)
        replace K4 := Aside0.mk (blk_below K4.out hbx)
        replace HB := Aside0.mk (HB.out.trans (hbx.mono HB.out.size))
        clear hbx
        generalize wr.alloc (Obj.cells #[.int .i64 b, .int .i64 d, .slice A L c] 43) = w11 at *
        rw [hb5] at K5 ⊢
        clear hb5
        refine (clusters1_calls b d A c ws b5 w11 (by rw [HLL.out]; exact K5.out) (by rw [HLL.out]; exact hcap) (Kd.C_below HCC.out HB.out) HZ.out 1 (Nat.le_refl _)).mono ?_
        rintro e w12 ⟨v12, rfl, hv, hb⟩
        obtain ⟨Ac, cc, rfl⟩ := Kd.R_slice hv
        have HAL := Aside0.mk (Kd.R_reads' hv)
        clear hv
        clear K5
        replace K3 := Aside0.mk (blk_below K3.out hb)
        replace K4 := Aside0.mk (blk_below K4.out hb)
        replace HB := Aside0.mk (HB.out.trans (hb.mono HB.out.size))
        clear hb
        have HSRT := Aside0.mk (Wv.asc_sorted (clus ws))
        have HPM := Aside0.mk (Wv.asc_perm (clus ws))
        have HLA : Aside0 ((Wv.asc (clus ws)).length = NC) := ⟨by rw [Wv.asc_len, HNC.out]⟩
        generalize Wv.asc (clus ws) = al at *
        have HCA := Aside0.mk HAL.out.2.2
        have HCC2 := Aside0.mk HAL.out.2.1
        rw [HLA.out] at HCC2 ⊢
        clear HAL
        go_wp2_with fail
        go_loopg [13] NC (fun kq v13 wr => ∃ i : Nat, v13 = .int .i64 i ∧ i + kq = NC ∧ Aside0 ((Kd.int .i64).C wr Ac al.length al) ∧ Aside0 (wr.heap[b3]? = some (.cells #[.int .i64 b, .int .i64 d, .slice A L c] 43 (0, 0))) ∧ Aside0 (wr.heap[b4]? = some (.cells #[.int .i64 b2, .int .i64 d2, .slice A2 ws2.length c2] 43 (0, 0))) ∧ Aside0 (Below w.heap.size w wr))
        case atStart => exact ⟨0, rfl, by omega, HCA, K3, K4, HB⟩
        case round =>
          clear HCA K3 K4 HB
          obtain ⟨i, rfl, hi, HCA, K3, K4, HB⟩ := hrel
          by_cases hlt : i < NC
          ·
            have hlt' : (i : Int) < (NC : Int) := by omega
            have hia : i < al.length := by rw [HLA.out]; exact hlt
            obtain ⟨pc, ep, z0⟩ := Kd.at_int HCA.out i (by omega) (by rw [HLA.out]; exact hlt')
            subst ep
            simp only [Int.toNat_natCast] at z0
            rw [rd_at al hia] at z0
            have HZ0 := Aside0.mk z0
            clear z0
            have HRUN : Aside0 ((i = 0 → runN al i al[i] = (clus ws).count al[i]) ∧ ∀ j (hj : j + 1 = i) (hl : j < al.length), al[j] ≠ al[i] → runN al i al[i] = (clus ws).count al[i]) := ⟨fun h => by rw [run_count HSRT.out hia (.inl h)]; exact HPM.out.count_eq _, fun j hj hl h => by
              subst hj
              rw [run_count HSRT.out hia (.inr h)]; exact HPM.out.count_eq _⟩
            obtain ⟨ct, hct⟩ : ∃ ct, (clus ws).count al[i] = ct := ⟨_, rfl⟩
            have HCNT := Aside0.mk hct
            clear hct
            by_cases h0 : i = 0
            ·
              have HRC : Aside0 (∀ W, Below wr.heap.size wr W → Calls Try.prog 37 #[.slice (some pc) NC cc, .int .i64 (i : Int)] W fun e w' => e = .returned (.int .i64 (ct : Nat)) ∧ Below W.heap.size W w') := ⟨fun W hW => by
                have h := run_calls (some pc) cc al i W (Kd.C_below HCA.out hW) (by rw [HLA.out]; exact HCC2.out) (by rw [HLA.out]; omega) hia
                rw [HLA.out, HRUN.out.1 h0, HCNT.out] at h
                exact h⟩
              have HCN : Aside0 (∀ W, Below wr.heap.size wr W → Calls Try.prog 36 #[.agg #[.int .i64 b, .int .i64 d, .slice A L c], .int .i64 al[i]] W fun e w' => e = .returned (.int .i64 (ct : Nat)) ∧ Below W.heap.size W w') := ⟨fun W hW => by
                have h := count_calls b d A c ws al[i] W (Kd.C_below HCC.out (HB.out.trans (hW.mono HB.out.size))) (by rw [HLL.out]; exact hcap) HZ.out
                rw [HLL.out, HCNT.out] at h
                exact h⟩
              generalize al[i] = y at *
              have hle0 : (i : Int) ≤ 0 := by omega
              have he0 : ((i : Int) == 0) = true := by simp; omega
              have he1 : (i == 0) = true := by simp; omega
              have he2 : (0 < i) = False := by simp; omega
              clear HRUN hia h0
              go_upto_region 26 with fail
              have HD : Aside0 (Below wr.heap.size wr wr.drew) := ⟨(Below.refl _ _).drew⟩
              have HC : Aside0 (∀ W, Below wr.heap.size wr W → W.cell? ⟨b3, 0, none⟩ = some (.int .i64 b) ∧ W.cell? ⟨b3, 1, none⟩ = some (.int .i64 d) ∧ W.cell? ⟨b3, 2, none⟩ = some (.slice A L c) ∧ W.cell? (pc.add i) = some (.int .i64 y)) := ⟨fun W hW => ⟨(blk_cell (blk_below K3.out hW) 0).trans rfl, (blk_cell (blk_below K3.out hW) 1).trans rfl, (blk_cell (blk_below K3.out hW) 2).trans rfl, pw_cell_below hW HZ0.out⟩⟩
              refine start_ (n := 42) (S := fun w' => w'.cell? ⟨b3, 0, none⟩ = some (.int .i64 b) ∧ w'.cell? ⟨b3, 1, none⟩ = some (.int .i64 d) ∧ w'.cell? ⟨b3, 2, none⟩ = some (.slice A L c) ∧ w'.cell? (pc.add i) = some (.int .i64 y)) (ds := []) #[false, false, false, false, false, false, false, false, false, false, false, false, false, false, false, false, false, false, false, false, false, false, false, false, false, false, false, false, false, false, false, false, false, false, false, false, false, false, false, false, false, false] (by kernel_rfl) rfl rfl (HC.out _ HD.out) (fun hHeld => ?_)
              refine pure_ (i := 0) (N := some 120) (v := ?_) (a' := ?_) #[true, false, false, false, false, false, false, false, false, false, false, false, false, false, false, false, false, false, false, false, false, false, false, false, false, false, false, false, false, false, false, false, false, false, false, false, false, false, false, false, false, false] rfl rfl (by kernel_rfl) (fun _ _ _ h => h) (Or.inl ⟨by rfl, ?_⟩) ?_ ?_
              rotate_left
              · intro w'
                go_simp
                with_reducible rfl
              rotate_left
              · simp only [Act.put, List.setIfInBounds_toArray, List.set_cons_zero, List.set_cons_succ, i64_w, i32_w]
                rfl
              refine pure_ (i := 1) (N := some 121) (v := ?_) (a' := ?_) #[true, true, false, false, false, false, false, false, false, false, false, false, false, false, false, false, false, false, false, false, false, false, false, false, false, false, false, false, false, false, false, false, false, false, false, false, false, false, false, false, false, false] rfl rfl (by kernel_rfl) (fun _ _ _ h => h) (Or.inl ⟨by rfl, ?_⟩) ?_ ?_
              rotate_left
              · intro w'
                go_simp
                with_reducible rfl
              rotate_left
              · simp only [Act.put, List.setIfInBounds_toArray, List.set_cons_zero, List.set_cons_succ, i64_w, i32_w]
                rfl
              refine pure_ (i := 2) (N := some 122) (v := ?_) (a' := ?_) #[true, true, true, false, false, false, false, false, false, false, false, false, false, false, false, false, false, false, false, false, false, false, false, false, false, false, false, false, false, false, false, false, false, false, false, false, false, false, false, false, false, false] rfl rfl (by kernel_rfl) (fun _ _ _ h => h) (Or.inl ⟨by rfl, ?_⟩) ?_ ?_
              rotate_left
              · intro w'
                go_simp
                with_reducible rfl
              rotate_left
              · simp only [Act.put, List.setIfInBounds_toArray, List.set_cons_zero, List.set_cons_succ, i64_w, i32_w]
                rfl
              refine pure_ (i := 3) (N := some 123) (v := undef) (a' := ?_) #[true, true, true, true, false, false, false, false, false, false, false, false, false, false, false, false, false, false, false, false, false, false, false, false, false, false, false, false, false, false, false, false, false, false, false, false, false, false, false, false, false, false] rfl rfl (by kernel_rfl) (fun _ _ _ h => h) (Or.inr ⟨by rfl, rfl⟩) ?_ ?_
              rotate_left
              · simp only [Act.put, List.setIfInBounds_toArray, List.set_cons_zero, List.set_cons_succ, i64_w, i32_w]
                rfl
              refine pure_ (i := 4) (N := some 124) (v := undef) (a' := ?_) #[true, true, true, true, true, false, false, false, false, false, false, false, false, false, false, false, false, false, false, false, false, false, false, false, false, false, false, false, false, false, false, false, false, false, false, false, false, false, false, false, false, false] rfl rfl (by kernel_rfl) (fun _ _ _ h => h) (Or.inr ⟨by rfl, rfl⟩) ?_ ?_
              rotate_left
              · simp only [Act.put, List.setIfInBounds_toArray, List.set_cons_zero, List.set_cons_succ, i64_w, i32_w]
                rfl
              refine pure_ (i := 5) (N := some 125) (v := undef) (a' := ?_) #[true, true, true, true, true, true, false, false, false, false, false, false, false, false, false, false, false, false, false, false, false, false, false, false, false, false, false, false, false, false, false, false, false, false, false, false, false, false, false, false, false, false] rfl rfl (by kernel_rfl) (fun _ _ _ h => h) (Or.inr ⟨by rfl, rfl⟩) ?_ ?_
              rotate_left
              · simp only [Act.put, List.setIfInBounds_toArray, List.set_cons_zero, List.set_cons_succ, i64_w, i32_w]
                rfl
              refine pure_ (i := 6) (N := some 126) (v := undef) (a' := ?_) #[true, true, true, true, true, true, true, false, false, false, false, false, false, false, false, false, false, false, false, false, false, false, false, false, false, false, false, false, false, false, false, false, false, false, false, false, false, false, false, false, false, false] rfl rfl (by kernel_rfl) (fun _ _ _ h => h) (Or.inr ⟨by rfl, rfl⟩) ?_ ?_
              rotate_left
              · simp only [Act.put, List.setIfInBounds_toArray, List.set_cons_zero, List.set_cons_succ, i64_w, i32_w]
                rfl
              refine pure_ (i := 7) (N := some 127) (v := undef) (a' := ?_) #[true, true, true, true, true, true, true, true, false, false, false, false, false, false, false, false, false, false, false, false, false, false, false, false, false, false, false, false, false, false, false, false, false, false, false, false, false, false, false, false, false, false] rfl rfl (by kernel_rfl) (fun _ _ _ h => h) (Or.inr ⟨by rfl, rfl⟩) ?_ ?_
              rotate_left
              · simp only [Act.put, List.setIfInBounds_toArray, List.set_cons_zero, List.set_cons_succ, i64_w, i32_w]
                rfl
              refine pure_ (i := 8) (N := some 128) (v := undef) (a' := ?_) #[true, true, true, true, true, true, true, true, true, false, false, false, false, false, false, false, false, false, false, false, false, false, false, false, false, false, false, false, false, false, false, false, false, false, false, false, false, false, false, false, false, false] rfl rfl (by kernel_rfl) (fun _ _ _ h => h) (Or.inr ⟨by rfl, rfl⟩) ?_ ?_
              rotate_left
              · simp only [Act.put, List.setIfInBounds_toArray, List.set_cons_zero, List.set_cons_succ, i64_w, i32_w]
                rfl
              refine pure_ (i := 9) (N := some 129) (v := undef) (a' := ?_) #[true, true, true, true, true, true, true, true, true, true, false, false, false, false, false, false, false, false, false, false, false, false, false, false, false, false, false, false, false, false, false, false, false, false, false, false, false, false, false, false, false, false] rfl rfl (by kernel_rfl) (fun _ _ _ h => h) (Or.inr ⟨by rfl, rfl⟩) ?_ ?_
              rotate_left
              · simp only [Act.put, List.setIfInBounds_toArray, List.set_cons_zero, List.set_cons_succ, i64_w, i32_w]
                rfl
              refine pure_ (i := 10) (N := some 130) (v := undef) (a' := ?_) #[true, true, true, true, true, true, true, true, true, true, true, false, false, false, false, false, false, false, false, false, false, false, false, false, false, false, false, false, false, false, false, false, false, false, false, false, false, false, false, false, false, false] rfl rfl (by kernel_rfl) (fun _ _ _ h => h) (Or.inr ⟨by rfl, rfl⟩) ?_ ?_
              rotate_left
              · simp only [Act.put, List.setIfInBounds_toArray, List.set_cons_zero, List.set_cons_succ, i64_w, i32_w]
                rfl
              refine pure_ (i := 11) (N := some 131) (v := undef) (a' := ?_) #[true, true, true, true, true, true, true, true, true, true, true, true, false, false, false, false, false, false, false, false, false, false, false, false, false, false, false, false, false, false, false, false, false, false, false, false, false, false, false, false, false, false] rfl rfl (by kernel_rfl) (fun _ _ _ h => h) (Or.inr ⟨by rfl, rfl⟩) ?_ ?_
              rotate_left
              · simp only [Act.put, List.setIfInBounds_toArray, List.set_cons_zero, List.set_cons_succ, i64_w, i32_w]
                rfl
              refine pure_ (i := 12) (N := some 132) (v := undef) (a' := ?_) #[true, true, true, true, true, true, true, true, true, true, true, true, true, false, false, false, false, false, false, false, false, false, false, false, false, false, false, false, false, false, false, false, false, false, false, false, false, false, false, false, false, false] rfl rfl (by kernel_rfl) (fun _ _ _ h => h) (Or.inr ⟨by rfl, rfl⟩) ?_ ?_
              rotate_left
              · simp only [Act.put, List.setIfInBounds_toArray, List.set_cons_zero, List.set_cons_succ, i64_w, i32_w]
                rfl
              refine pure_ (i := 13) (N := some 133) (v := ?_) (a' := ?_) #[true, true, true, true, true, true, true, true, true, true, true, true, true, true, false, false, false, false, false, false, false, false, false, false, false, false, false, false, false, false, false, false, false, false, false, false, false, false, false, false, false, false] rfl rfl (by kernel_rfl) (fun _ _ _ h => h) (Or.inl ⟨by rfl, ?_⟩) ?_ ?_
              rotate_left
              · intro w'
                go_simp
                with_reducible rfl
              rotate_left
              · simp only [Act.put, List.setIfInBounds_toArray, List.set_cons_zero, List.set_cons_succ, i64_w, i32_w]
                rfl
              refine pure_ (i := 14) (N := some 134) (v := ?_) (a' := ?_) #[true, true, true, true, true, true, true, true, true, true, true, true, true, true, true, false, false, false, false, false, false, false, false, false, false, false, false, false, false, false, false, false, false, false, false, false, false, false, false, false, false, false] rfl rfl (by kernel_rfl) (fun _ _ _ h => h) (Or.inl ⟨by rfl, ?_⟩) ?_ ?_
              rotate_left
              · intro w'
                go_simp
                with_reducible rfl
              rotate_left
              · simp only [Act.put, List.setIfInBounds_toArray, List.set_cons_zero, List.set_cons_succ, i64_w, i32_w]
                rfl
              refine pure_ (i := 15) (N := some 135) (v := ?_) (a' := ?_) #[true, true, true, true, true, true, true, true, true, true, true, true, true, true, true, true, false, false, false, false, false, false, false, false, false, false, false, false, false, false, false, false, false, false, false, false, false, false, false, false, false, false] rfl rfl (by kernel_rfl) (fun _ _ _ h => h) (Or.inl ⟨by rfl, ?_⟩) ?_ ?_
              rotate_left
              · intro w'
                go_simp
                with_reducible rfl
              rotate_left
              · simp only [Act.put, List.setIfInBounds_toArray, List.set_cons_zero, List.set_cons_succ, i64_w, i32_w]
                rfl
              refine pure_ (i := 16) (N := some 136) (v := ?_) (a' := ?_) #[true, true, true, true, true, true, true, true, true, true, true, true, true, true, true, true, true, false, false, false, false, false, false, false, false, false, false, false, false, false, false, false, false, false, false, false, false, false, false, false, false, false] rfl rfl (by kernel_rfl) (fun _ _ _ h => h) (Or.inl ⟨by rfl, ?_⟩) ?_ ?_
              rotate_left
              · intro w'
                go_simp
                with_reducible rfl
              rotate_left
              · simp only [Act.put, List.setIfInBounds_toArray, List.set_cons_zero, List.set_cons_succ, i64_w, i32_w]
                rfl
              refine pure_ (i := 17) (N := some 137) (v := ?_) (a' := ?_) #[true, true, true, true, true, true, true, true, true, true, true, true, true, true, true, true, true, true, false, false, false, false, false, false, false, false, false, false, false, false, false, false, false, false, false, false, false, false, false, false, false, false] rfl rfl (by kernel_rfl) (fun _ _ _ h => h) (Or.inl ⟨by rfl, ?_⟩) ?_ ?_
              rotate_left
              · intro w'
                go_simp
                with_reducible rfl
              rotate_left
              · simp only [Act.put, List.setIfInBounds_toArray, List.set_cons_zero, List.set_cons_succ, i64_w, i32_w]
                rfl
              refine pure_ (i := 18) (N := some 138) (v := undef) (a' := ?_) #[true, true, true, true, true, true, true, true, true, true, true, true, true, true, true, true, true, true, true, false, false, false, false, false, false, false, false, false, false, false, false, false, false, false, false, false, false, false, false, false, false, false] rfl rfl (by kernel_rfl) (fun _ _ _ h => h) (Or.inr ⟨by rfl, rfl⟩) ?_ ?_
              rotate_left
              · simp only [Act.put, List.setIfInBounds_toArray, List.set_cons_zero, List.set_cons_succ, i64_w, i32_w]
                rfl
              refine pure_ (i := 19) (N := some 139) (v := undef) (a' := ?_) #[true, true, true, true, true, true, true, true, true, true, true, true, true, true, true, true, true, true, true, true, false, false, false, false, false, false, false, false, false, false, false, false, false, false, false, false, false, false, false, false, false, false] rfl rfl (by kernel_rfl) (fun _ _ _ h => h) (Or.inr ⟨by rfl, rfl⟩) ?_ ?_
              rotate_left
              · simp only [Act.put, List.setIfInBounds_toArray, List.set_cons_zero, List.set_cons_succ, i64_w, i32_w]
                rfl
              refine pure_ (i := 20) (N := some 140) (v := undef) (a' := ?_) #[true, true, true, true, true, true, true, true, true, true, true, true, true, true, true, true, true, true, true, true, true, false, false, false, false, false, false, false, false, false, false, false, false, false, false, false, false, false, false, false, false, false] rfl rfl (by kernel_rfl) (fun _ _ _ h => h) (Or.inr ⟨by rfl, rfl⟩) ?_ ?_
              rotate_left
              · simp only [Act.put, List.setIfInBounds_toArray, List.set_cons_zero, List.set_cons_succ, i64_w, i32_w]
                rfl
              refine pure_ (i := 21) (N := some 141) (v := undef) (a' := ?_) #[true, true, true, true, true, true, true, true, true, true, true, true, true, true, true, true, true, true, true, true, true, true, false, false, false, false, false, false, false, false, false, false, false, false, false, false, false, false, false, false, false, false] rfl rfl (by kernel_rfl) (fun _ _ _ h => h) (Or.inr ⟨by rfl, rfl⟩) ?_ ?_
              rotate_left
              · simp only [Act.put, List.setIfInBounds_toArray, List.set_cons_zero, List.set_cons_succ, i64_w, i32_w]
                rfl
              refine pure_ (i := 22) (N := some 142) (v := undef) (a' := ?_) #[true, true, true, true, true, true, true, true, true, true, true, true, true, true, true, true, true, true, true, true, true, true, true, false, false, false, false, false, false, false, false, false, false, false, false, false, false, false, false, false, false, false] rfl rfl (by kernel_rfl) (fun _ _ _ h => h) (Or.inr ⟨by rfl, rfl⟩) ?_ ?_
              rotate_left
              · simp only [Act.put, List.setIfInBounds_toArray, List.set_cons_zero, List.set_cons_succ, i64_w, i32_w]
                rfl
              refine pure_ (i := 23) (N := some 143) (v := undef) (a' := ?_) #[true, true, true, true, true, true, true, true, true, true, true, true, true, true, true, true, true, true, true, true, true, true, true, true, false, false, false, false, false, false, false, false, false, false, false, false, false, false, false, false, false, false] rfl rfl (by kernel_rfl) (fun _ _ _ h => h) (Or.inr ⟨by rfl, rfl⟩) ?_ ?_
              rotate_left
              · simp only [Act.put, List.setIfInBounds_toArray, List.set_cons_zero, List.set_cons_succ, i64_w, i32_w]
                rfl
              refine pure_ (i := 24) (N := some 144) (v := undef) (a' := ?_) #[true, true, true, true, true, true, true, true, true, true, true, true, true, true, true, true, true, true, true, true, true, true, true, true, true, false, false, false, false, false, false, false, false, false, false, false, false, false, false, false, false, false] rfl rfl (by kernel_rfl) (fun _ _ _ h => h) (Or.inr ⟨by rfl, rfl⟩) ?_ ?_
              rotate_left
              · simp only [Act.put, List.setIfInBounds_toArray, List.set_cons_zero, List.set_cons_succ, i64_w, i32_w]
                rfl
              refine pure_ (i := 25) (N := some 145) (v := undef) (a' := ?_) #[true, true, true, true, true, true, true, true, true, true, true, true, true, true, true, true, true, true, true, true, true, true, true, true, true, true, false, false, false, false, false, false, false, false, false, false, false, false, false, false, false, false] rfl rfl (by kernel_rfl) (fun _ _ _ h => h) (Or.inr ⟨by rfl, rfl⟩) ?_ ?_
              rotate_left
              · simp only [Act.put, List.setIfInBounds_toArray, List.set_cons_zero, List.set_cons_succ, i64_w, i32_w]
                rfl
              refine pure_ (i := 26) (N := some 146) (v := undef) (a' := ?_) #[true, true, true, true, true, true, true, true, true, true, true, true, true, true, true, true, true, true, true, true, true, true, true, true, true, true, true, false, false, false, false, false, false, false, false, false, false, false, false, false, false, false] rfl rfl (by kernel_rfl) (fun _ _ _ h => h) (Or.inr ⟨by rfl, rfl⟩) ?_ ?_
              rotate_left
              · simp only [Act.put, List.setIfInBounds_toArray, List.set_cons_zero, List.set_cons_succ, i64_w, i32_w]
                rfl
              refine pure_ (i := 27) (N := some 147) (v := undef) (a' := ?_) #[true, true, true, true, true, true, true, true, true, true, true, true, true, true, true, true, true, true, true, true, true, true, true, true, true, true, true, true, false, false, false, false, false, false, false, false, false, false, false, false, false, false] rfl rfl (by kernel_rfl) (fun _ _ _ h => h) (Or.inr ⟨by rfl, rfl⟩) ?_ ?_
              rotate_left
              · simp only [Act.put, List.setIfInBounds_toArray, List.set_cons_zero, List.set_cons_succ, i64_w, i32_w]
                rfl
              refine pure_ (i := 28) (N := some 148) (v := ?_) (a' := ?_) #[true, true, true, true, true, true, true, true, true, true, true, true, true, true, true, true, true, true, true, true, true, true, true, true, true, true, true, true, true, false, false, false, false, false, false, false, false, false, false, false, false, false] rfl rfl (by kernel_rfl) (fun _ _ _ h => h) (Or.inl ⟨by rfl, ?_⟩) ?_ ?_
              rotate_left
              · intro w'
                go_simp
                with_reducible rfl
              rotate_left
              · simp only [Act.put, List.setIfInBounds_toArray, List.set_cons_zero, List.set_cons_succ, i64_w, i32_w]
                rfl
              refine pure_ (i := 29) (N := some 149) (v := ?_) (a' := ?_) #[true, true, true, true, true, true, true, true, true, true, true, true, true, true, true, true, true, true, true, true, true, true, true, true, true, true, true, true, true, true, false, false, false, false, false, false, false, false, false, false, false, false] rfl rfl (by kernel_rfl) (fun _ _ _ h => h) (Or.inl ⟨by rfl, ?_⟩) ?_ ?_
              rotate_left
              · intro w'
                go_simp
                with_reducible rfl
              rotate_left
              · simp only [Act.put, List.setIfInBounds_toArray, List.set_cons_zero, List.set_cons_succ, i64_w, i32_w]
                rfl
              refine pure_ (i := 31) (N := some 151) (v := ?_) (a' := ?_) #[true, true, true, true, true, true, true, true, true, true, true, true, true, true, true, true, true, true, true, true, true, true, true, true, true, true, true, true, true, true, false, true, false, false, false, false, false, false, false, false, false, false] rfl rfl (by kernel_rfl) (fun _ _ _ h => h) (Or.inl ⟨by rfl, ?_⟩) ?_ ?_
              rotate_left
              · intro w'
                go_simp
                with_reducible rfl
              rotate_left
              · simp only [Act.put, List.setIfInBounds_toArray, List.set_cons_zero, List.set_cons_succ, i64_w, i32_w]
                rfl
              refine pure_ (i := 32) (N := some 152) (v := ?_) (a' := ?_) #[true, true, true, true, true, true, true, true, true, true, true, true, true, true, true, true, true, true, true, true, true, true, true, true, true, true, true, true, true, true, false, true, true, false, false, false, false, false, false, false, false, false] rfl rfl (by kernel_rfl) (fun _ _ _ h => h) (Or.inl ⟨by rfl, ?_⟩) ?_ ?_
              rotate_left
              · intro w'
                go_simp
                with_reducible rfl
              rotate_left
              · simp only [Act.put, List.setIfInBounds_toArray, List.set_cons_zero, List.set_cons_succ, i64_w, i32_w]
                rfl
              refine pure_ (i := 33) (N := some 153) (v := ?_) (a' := ?_) #[true, true, true, true, true, true, true, true, true, true, true, true, true, true, true, true, true, true, true, true, true, true, true, true, true, true, true, true, true, true, false, true, true, true, false, false, false, false, false, false, false, false] rfl rfl (by kernel_rfl) (fun _ _ _ h => h) (Or.inl ⟨by rfl, ?_⟩) ?_ ?_
              rotate_left
              · intro w'
                go_simp
                with_reducible rfl
              rotate_left
              · simp only [Act.put, List.setIfInBounds_toArray, List.set_cons_zero, List.set_cons_succ, i64_w, i32_w]
                rfl
              refine pure_ (i := 36) (N := some 156) (v := ?_) (a' := ?_) #[true, true, true, true, true, true, true, true, true, true, true, true, true, true, true, true, true, true, true, true, true, true, true, true, true, true, true, true, true, true, false, true, true, true, false, false, true, false, false, false, false, false] rfl rfl (by kernel_rfl) (fun _ _ _ h => h) (Or.inl ⟨by rfl, ?_⟩) ?_ ?_
              rotate_left
              · intro w'
                go_simp
                with_reducible rfl
              rotate_left
              · simp only [Act.put, List.setIfInBounds_toArray, List.set_cons_zero, List.set_cons_succ, i64_w, i32_w]
                rfl
              refine pure_ (i := 37) (N := some 157) (v := ?_) (a' := ?_) #[true, true, true, true, true, true, true, true, true, true, true, true, true, true, true, true, true, true, true, true, true, true, true, true, true, true, true, true, true, true, false, true, true, true, false, false, true, true, false, false, false, false] rfl rfl (by kernel_rfl) (fun _ _ _ h => h) (Or.inl ⟨by rfl, ?_⟩) ?_ ?_
              rotate_left
              · intro w'
                go_simp
                with_reducible rfl
              rotate_left
              · simp only [Act.put, List.setIfInBounds_toArray, List.set_cons_zero, List.set_cons_succ, i64_w, i32_w]
                rfl
              refine take_ (i := 30) (N := some 150) (v := ?_) (a' := ?_) #[true, true, true, true, true, true, true, true, true, true, true, true, true, true, true, true, true, true, true, true, true, true, true, true, true, true, true, true, true, true, true, true, true, true, false, false, true, true, false, false, false, false] rfl rfl (by kernel_rfl) (fun _ _ _ h => h) (Or.inl ⟨by rfl, ?_⟩) hHeld ?_ ?_
              rotate_left
              · rintro w' ⟨s0, s1, s2, s3⟩
                go_simp
                with_reducible rfl
              rotate_left
              · simp only [Act.put, List.setIfInBounds_toArray, List.set_cons_zero, List.set_cons_succ, i64_w, i32_w]
                rfl
              refine take_ (i := 34) (N := some 154) (v := ?_) (a' := ?_) #[true, true, true, true, true, true, true, true, true, true, true, true, true, true, true, true, true, true, true, true, true, true, true, true, true, true, true, true, true, true, true, true, true, true, true, false, true, true, false, false, false, false] rfl rfl (by kernel_rfl) (fun _ _ _ h => h) (Or.inl ⟨by rfl, ?_⟩) hHeld ?_ ?_
              rotate_left
              · rintro w' ⟨s0, s1, s2, s3⟩
                go_simp
                with_reducible rfl
              rotate_left
              · simp only [Act.put, List.setIfInBounds_toArray, List.set_cons_zero, List.set_cons_succ, i64_w, i32_w]
                rfl
              refine one_ (i := 35) (N := some 155) #[true, true, true, true, true, true, true, true, true, true, true, true, true, true, true, true, true, true, true, true, true, true, true, true, true, true, true, true, true, true, true, true, true, true, true, true, true, true, false, false, false, false] rfl rfl (by kernel_rfl) (by decide) (fun K hK => ?_)
              refine goes_ Try.func36 (by kernel_rfl) rfl #[.agg #[.int .i64 b, .int .i64 d, .slice A L c], .int .i64 y] (by rfl) rfl rfl (by (try simp only [List.map_toArray, List.map_cons, List.map_nil]); first | done | rfl) ?_
              refine (HCN.out wr.drew HD.out).mono ?_
              rintro e w20 ⟨rfl, hb⟩
              refine ⟨_, rfl, ?_⟩
              replace HD := Aside0.mk (HD.out.trans (hb.mono HD.out.size))
              clear hb
              refine hK.out _ _ (HC.out _ HD.out) (fun hHeld => ?_)
              clear hK K
              refine norm_ (a' := ?_) ?_ ?_
              rotate_left
              · show Act.put _ (some 155) _ = _
                simp only [Act.put, List.setIfInBounds_toArray, List.set_cons_zero, List.set_cons_succ, i64_w, i32_w]
                rfl
              refine one_ (i := 38) (N := some 158) #[true, true, true, true, true, true, true, true, true, true, true, true, true, true, true, true, true, true, true, true, true, true, true, true, true, true, true, true, true, true, true, true, true, true, true, true, true, true, true, false, false, false] rfl rfl (by kernel_rfl) (by decide) (fun K hK => ?_)
              refine goes_ Try.func37 (by kernel_rfl) rfl #[.slice (some pc) NC cc, .int .i64 (i : Int)] (by rfl) rfl rfl (by (try simp only [List.map_toArray, List.map_cons, List.map_nil]); first | done | rfl) ?_
              refine (HRC.out w20 HD.out).mono ?_
              rintro e w21 ⟨rfl, hb⟩
              refine ⟨_, rfl, ?_⟩
              replace HD := Aside0.mk (HD.out.trans (hb.mono HD.out.size))
              clear hb
              refine hK.out _ _ (HC.out _ HD.out) (fun hHeld => ?_)
              clear hK K
              refine norm_ (a' := ?_) ?_ ?_
              rotate_left
              · show Act.put _ (some 158) _ = _
                simp only [Act.put, List.setIfInBounds_toArray, List.set_cons_zero, List.set_cons_succ, i64_w, i32_w]
                rfl
              refine pure_ (i := 39) (N := some 159) (v := ?_) (a' := ?_) #[true, true, true, true, true, true, true, true, true, true, true, true, true, true, true, true, true, true, true, true, true, true, true, true, true, true, true, true, true, true, true, true, true, true, true, true, true, true, true, true, false, false] rfl rfl (by kernel_rfl) (fun _ _ _ h => h) (Or.inl ⟨by rfl, ?_⟩) ?_ ?_
              rotate_left
              · intro w'
                go_simp
                with_reducible rfl
              rotate_left
              · simp only [Act.put, List.setIfInBounds_toArray, List.set_cons_zero, List.set_cons_succ, i64_w, i32_w]
                rfl
              refine pure_ (i := 40) (N := some 160) (v := ?_) (a' := ?_) #[true, true, true, true, true, true, true, true, true, true, true, true, true, true, true, true, true, true, true, true, true, true, true, true, true, true, true, true, true, true, true, true, true, true, true, true, true, true, true, true, true, false] rfl rfl (by kernel_rfl) (fun _ _ _ h => h) (Or.inl ⟨by rfl, ?_⟩) ?_ ?_
              rotate_left
              · intro w'
                go_simp
                with_reducible rfl
              rotate_left
              · simp only [Act.put, List.setIfInBounds_toArray, List.set_cons_zero, List.set_cons_succ, i64_w, i32_w]
                rfl
              refine pure_ (i := 41) (N := some 161) (v := ?_) (a' := ?_) #[true, true, true, true, true, true, true, true, true, true, true, true, true, true, true, true, true, true, true, true, true, true, true, true, true, true, true, true, true, true, true, true, true, true, true, true, true, true, true, true, true, true] rfl rfl (by kernel_rfl) (fun _ _ _ h => h) (Or.inl ⟨by rfl, ?_⟩) ?_ ?_
              rotate_left
              · intro w'
                go_simp
                with_reducible rfl
              rotate_left
              · simp only [Act.put, List.setIfInBounds_toArray, List.set_cons_zero, List.set_cons_succ, i64_w, i32_w]
                rfl
              refine done_ (by kernel_rfl) ?_
              have hb := HD.out
              clear HD HC hHeld HCNT HZ0 HRC HCN
              replace K3 := Aside0.mk (blk_below K3.out hb)
              replace K4 := Aside0.mk (blk_below K4.out hb)
              replace HCA := Aside0.mk (Kd.C_below HCA.out hb)
              replace HB := Aside0.mk (HB.out.trans (hb.mono HB.out.size))
              clear hb
              go_wp2_with fail
              go_roundg (NC - (i + 1))
              case measure => omega
              case rel => exact ⟨i + 1, by go_num, by omega, HCA, K3, K4, HB⟩
            ·
              obtain ⟨j, hj⟩ : ∃ j, j = i - 1 := ⟨_, rfl⟩
              have hja : j < al.length := by omega
              have hjN : (j : Int) < (NC : Int) := by omega
              obtain ⟨pc', ep, z1⟩ := Kd.at_int HCA.out j (by omega) (by rw [HLA.out]; exact hjN)
              cases ep
              simp only [Int.toNat_natCast] at z1
              rw [rd_at al hja] at z1
              have HZ1 := Aside0.mk z1
              have hle : al[j] ≤ al[i] := List.pairwise_iff_getElem.1 HSRT.out j i hja hia (by omega)
              have hgt0 : (0 : Int) < (i : Int) := by omega
              have hgt1 : 0 < i := by omega
              have hne0 : ((i : Int) == 0) = false := by simp; omega
              have hne1 : (i == 0) = false := by simp; omega
              have hne2 : (i = 0) = False := by simp; omega
              have HWJ : Aside0 (wrap64 ((i : Int) - 1) = (j : Int)) := ⟨by unfold wrap64; omega⟩
              have HWK : Aside0 (IntKind.i64.wrap ((i : Int) - 1) = (j : Int)) := ⟨by rw [i64_w]; exact HWJ.out⟩
              have HJI : Aside0 (j + 1 = i) := ⟨by omega⟩
              by_cases heq : al[j] = al[i]
              ·
                rw [heq] at HZ1
                clear heq hle HRUN
                generalize al[i] = y at *
                clear hia z1 h0 hj
                go_upto_region 26 with fail
                have HD : Aside0 (Below wr.heap.size wr wr.drew) := ⟨(Below.refl _ _).drew⟩
                have HC : Aside0 (∀ W, Below wr.heap.size wr W → W.cell? ⟨b3, 0, none⟩ = some (.int .i64 b) ∧ W.cell? ⟨b3, 1, none⟩ = some (.int .i64 d) ∧ W.cell? ⟨b3, 2, none⟩ = some (.slice A L c) ∧ W.cell? (pc.add i) = some (.int .i64 y) ∧ W.cell? (pc.add j) = some (.int .i64 y)) := ⟨fun W hW => ⟨(blk_cell (blk_below K3.out hW) 0).trans rfl, (blk_cell (blk_below K3.out hW) 1).trans rfl, (blk_cell (blk_below K3.out hW) 2).trans rfl, pw_cell_below hW HZ0.out, pw_cell_below hW HZ1.out⟩⟩
                refine start_ (n := 42) (S := fun w' => w'.cell? ⟨b3, 0, none⟩ = some (.int .i64 b) ∧ w'.cell? ⟨b3, 1, none⟩ = some (.int .i64 d) ∧ w'.cell? ⟨b3, 2, none⟩ = some (.slice A L c) ∧ w'.cell? (pc.add i) = some (.int .i64 y) ∧ w'.cell? (pc.add j) = some (.int .i64 y)) (ds := []) #[false, false, false, false, false, false, false, false, false, false, false, false, false, false, false, false, false, false, false, false, false, false, false, false, false, false, false, false, false, false, false, false, false, false, false, false, false, false, false, false, false, false] (by kernel_rfl) rfl rfl (HC.out _ HD.out) (fun hHeld => ?_)
                refine pure_ (i := 0) (N := some 120) (v := ?_) (a' := ?_) #[true, false, false, false, false, false, false, false, false, false, false, false, false, false, false, false, false, false, false, false, false, false, false, false, false, false, false, false, false, false, false, false, false, false, false, false, false, false, false, false, false, false] rfl rfl (by kernel_rfl) (fun _ _ _ h => h) (Or.inl ⟨by rfl, ?_⟩) ?_ ?_
                rotate_left
                · intro w'
                  go_simp
                  with_reducible rfl
                rotate_left
                · simp only [Act.put, List.setIfInBounds_toArray, List.set_cons_zero, List.set_cons_succ, i64_w, i32_w]
                  rfl
                refine pure_ (i := 1) (N := some 121) (v := ?_) (a' := ?_) #[true, true, false, false, false, false, false, false, false, false, false, false, false, false, false, false, false, false, false, false, false, false, false, false, false, false, false, false, false, false, false, false, false, false, false, false, false, false, false, false, false, false] rfl rfl (by kernel_rfl) (fun _ _ _ h => h) (Or.inl ⟨by rfl, ?_⟩) ?_ ?_
                rotate_left
                · intro w'
                  go_simp
                  with_reducible rfl
                rotate_left
                · simp only [Act.put, List.setIfInBounds_toArray, List.set_cons_zero, List.set_cons_succ, i64_w, i32_w]
                  rfl
                refine pure_ (i := 2) (N := some 122) (v := ?_) (a' := ?_) #[true, true, true, false, false, false, false, false, false, false, false, false, false, false, false, false, false, false, false, false, false, false, false, false, false, false, false, false, false, false, false, false, false, false, false, false, false, false, false, false, false, false] rfl rfl (by kernel_rfl) (fun _ _ _ h => h) (Or.inl ⟨by rfl, ?_⟩) ?_ ?_
                rotate_left
                · intro w'
                  go_simp
                  with_reducible rfl
                rotate_left
                · simp only [Act.put, List.setIfInBounds_toArray, List.set_cons_zero, List.set_cons_succ, i64_w, i32_w]
                  rfl
                refine pure_ (i := 3) (N := some 123) (v := ?_) (a' := ?_) #[true, true, true, true, false, false, false, false, false, false, false, false, false, false, false, false, false, false, false, false, false, false, false, false, false, false, false, false, false, false, false, false, false, false, false, false, false, false, false, false, false, false] rfl rfl (by kernel_rfl) (fun _ _ _ h => h) (Or.inl ⟨by rfl, ?_⟩) ?_ ?_
                rotate_left
                · intro w'
                  go_simp
                  with_reducible rfl
                rotate_left
                · simp only [Act.put, List.setIfInBounds_toArray, List.set_cons_zero, List.set_cons_succ, i64_w, i32_w]
                  rfl
                refine pure_ (i := 4) (N := some 124) (v := ?_) (a' := ?_) #[true, true, true, true, true, false, false, false, false, false, false, false, false, false, false, false, false, false, false, false, false, false, false, false, false, false, false, false, false, false, false, false, false, false, false, false, false, false, false, false, false, false] rfl rfl (by kernel_rfl) (fun _ _ _ h => h) (Or.inl ⟨by rfl, ?_⟩) ?_ ?_
                rotate_left
                · intro w'
                  go_simp
                  with_reducible rfl
                rotate_left
                · simp only [Act.put, List.setIfInBounds_toArray, List.set_cons_zero, List.set_cons_succ, i64_w, i32_w]
                  rfl
                refine pure_ (i := 5) (N := some 125) (v := .int .i64 (j : Int)) (a' := ?_) #[true, true, true, true, true, true, false, false, false, false, false, false, false, false, false, false, false, false, false, false, false, false, false, false, false, false, false, false, false, false, false, false, false, false, false, false, false, false, false, false, false, false] rfl rfl (by kernel_rfl) (fun _ _ _ h => h) (Or.inl ⟨by rfl, fun w9 => by go_simp; have h1 := HJI.out; (try rw [i64_w]); unfold wrap64; omega⟩) ?_ ?_
                rotate_left
                · simp only [Act.put, List.setIfInBounds_toArray, List.set_cons_zero, List.set_cons_succ, i64_w, i32_w]
                  rfl
                refine pure_ (i := 6) (N := some 126) (v := ?_) (a' := ?_) #[true, true, true, true, true, true, true, false, false, false, false, false, false, false, false, false, false, false, false, false, false, false, false, false, false, false, false, false, false, false, false, false, false, false, false, false, false, false, false, false, false, false] rfl rfl (by kernel_rfl) (fun _ _ _ h => h) (Or.inl ⟨by rfl, ?_⟩) ?_ ?_
                rotate_left
                · intro w'
                  go_simp
                  with_reducible rfl
                rotate_left
                · simp only [Act.put, List.setIfInBounds_toArray, List.set_cons_zero, List.set_cons_succ, i64_w, i32_w]
                  rfl
                refine pure_ (i := 8) (N := some 128) (v := ?_) (a' := ?_) #[true, true, true, true, true, true, true, false, true, false, false, false, false, false, false, false, false, false, false, false, false, false, false, false, false, false, false, false, false, false, false, false, false, false, false, false, false, false, false, false, false, false] rfl rfl (by kernel_rfl) (fun _ _ _ h => h) (Or.inl ⟨by rfl, ?_⟩) ?_ ?_
                rotate_left
                · intro w'
                  go_simp
                  with_reducible rfl
                rotate_left
                · simp only [Act.put, List.setIfInBounds_toArray, List.set_cons_zero, List.set_cons_succ, i64_w, i32_w]
                  rfl
                refine pure_ (i := 9) (N := some 129) (v := ?_) (a' := ?_) #[true, true, true, true, true, true, true, false, true, true, false, false, false, false, false, false, false, false, false, false, false, false, false, false, false, false, false, false, false, false, false, false, false, false, false, false, false, false, false, false, false, false] rfl rfl (by kernel_rfl) (fun _ _ _ h => h) (Or.inl ⟨by rfl, ?_⟩) ?_ ?_
                rotate_left
                · intro w'
                  go_simp
                  with_reducible rfl
                rotate_left
                · simp only [Act.put, List.setIfInBounds_toArray, List.set_cons_zero, List.set_cons_succ, i64_w, i32_w]
                  rfl
                refine pure_ (i := 10) (N := some 130) (v := ?_) (a' := ?_) #[true, true, true, true, true, true, true, false, true, true, true, false, false, false, false, false, false, false, false, false, false, false, false, false, false, false, false, false, false, false, false, false, false, false, false, false, false, false, false, false, false, false] rfl rfl (by kernel_rfl) (fun _ _ _ h => h) (Or.inl ⟨by rfl, ?_⟩) ?_ ?_
                rotate_left
                · intro w'
                  go_simp
                  with_reducible rfl
                rotate_left
                · simp only [Act.put, List.setIfInBounds_toArray, List.set_cons_zero, List.set_cons_succ, i64_w, i32_w]
                  rfl
                refine take_ (i := 7) (N := some 127) (v := ?_) (a' := ?_) #[true, true, true, true, true, true, true, true, true, true, true, false, false, false, false, false, false, false, false, false, false, false, false, false, false, false, false, false, false, false, false, false, false, false, false, false, false, false, false, false, false, false] rfl rfl (by kernel_rfl) (fun _ _ _ h => h) (Or.inl ⟨by rfl, ?_⟩) hHeld ?_ ?_
                rotate_left
                · rintro w' ⟨s0, s1, s2, s3, s4⟩
                  go_simp
                  with_reducible rfl
                rotate_left
                · simp only [Act.put, List.setIfInBounds_toArray, List.set_cons_zero, List.set_cons_succ, i64_w, i32_w]
                  rfl
                refine take_ (i := 11) (N := some 131) (v := ?_) (a' := ?_) #[true, true, true, true, true, true, true, true, true, true, true, true, false, false, false, false, false, false, false, false, false, false, false, false, false, false, false, false, false, false, false, false, false, false, false, false, false, false, false, false, false, false] rfl rfl (by kernel_rfl) (fun _ _ _ h => h) (Or.inl ⟨by rfl, ?_⟩) hHeld ?_ ?_
                rotate_left
                · rintro w' ⟨s0, s1, s2, s3, s4⟩
                  go_simp
                  with_reducible rfl
                rotate_left
                · simp only [Act.put, List.setIfInBounds_toArray, List.set_cons_zero, List.set_cons_succ, i64_w, i32_w]
                  rfl
                refine pure_ (i := 12) (N := some 132) (v := ?_) (a' := ?_) #[true, true, true, true, true, true, true, true, true, true, true, true, true, false, false, false, false, false, false, false, false, false, false, false, false, false, false, false, false, false, false, false, false, false, false, false, false, false, false, false, false, false] rfl rfl (by kernel_rfl) (fun _ _ _ h => h) (Or.inl ⟨by rfl, ?_⟩) ?_ ?_
                rotate_left
                · intro w'
                  go_simp
                  with_reducible rfl
                rotate_left
                · simp only [Act.put, List.setIfInBounds_toArray, List.set_cons_zero, List.set_cons_succ, i64_w, i32_w]
                  rfl
                refine pure_ (i := 13) (N := some 133) (v := ?_) (a' := ?_) #[true, true, true, true, true, true, true, true, true, true, true, true, true, true, false, false, false, false, false, false, false, false, false, false, false, false, false, false, false, false, false, false, false, false, false, false, false, false, false, false, false, false] rfl rfl (by kernel_rfl) (fun _ _ _ h => h) (Or.inl ⟨by rfl, ?_⟩) ?_ ?_
                rotate_left
                · intro w'
                  go_simp
                  with_reducible rfl
                rotate_left
                · simp only [Act.put, List.setIfInBounds_toArray, List.set_cons_zero, List.set_cons_succ, i64_w, i32_w]
                  rfl
                refine pure_ (i := 14) (N := some 134) (v := ?_) (a' := ?_) #[true, true, true, true, true, true, true, true, true, true, true, true, true, true, true, false, false, false, false, false, false, false, false, false, false, false, false, false, false, false, false, false, false, false, false, false, false, false, false, false, false, false] rfl rfl (by kernel_rfl) (fun _ _ _ h => h) (Or.inl ⟨by rfl, ?_⟩) ?_ ?_
                rotate_left
                · intro w'
                  go_simp
                  with_reducible rfl
                rotate_left
                · simp only [Act.put, List.setIfInBounds_toArray, List.set_cons_zero, List.set_cons_succ, i64_w, i32_w]
                  rfl
                refine pure_ (i := 15) (N := some 135) (v := ?_) (a' := ?_) #[true, true, true, true, true, true, true, true, true, true, true, true, true, true, true, true, false, false, false, false, false, false, false, false, false, false, false, false, false, false, false, false, false, false, false, false, false, false, false, false, false, false] rfl rfl (by kernel_rfl) (fun _ _ _ h => h) (Or.inl ⟨by rfl, ?_⟩) ?_ ?_
                rotate_left
                · intro w'
                  go_simp
                  with_reducible rfl
                rotate_left
                · simp only [Act.put, List.setIfInBounds_toArray, List.set_cons_zero, List.set_cons_succ, i64_w, i32_w]
                  rfl
                refine pure_ (i := 16) (N := some 136) (v := ?_) (a' := ?_) #[true, true, true, true, true, true, true, true, true, true, true, true, true, true, true, true, true, false, false, false, false, false, false, false, false, false, false, false, false, false, false, false, false, false, false, false, false, false, false, false, false, false] rfl rfl (by kernel_rfl) (fun _ _ _ h => h) (Or.inl ⟨by rfl, ?_⟩) ?_ ?_
                rotate_left
                · intro w'
                  go_simp
                  with_reducible rfl
                rotate_left
                · simp only [Act.put, List.setIfInBounds_toArray, List.set_cons_zero, List.set_cons_succ, i64_w, i32_w]
                  rfl
                refine pure_ (i := 17) (N := some 137) (v := ?_) (a' := ?_) #[true, true, true, true, true, true, true, true, true, true, true, true, true, true, true, true, true, true, false, false, false, false, false, false, false, false, false, false, false, false, false, false, false, false, false, false, false, false, false, false, false, false] rfl rfl (by kernel_rfl) (fun _ _ _ h => h) (Or.inl ⟨by rfl, ?_⟩) ?_ ?_
                rotate_left
                · intro w'
                  go_simp
                  with_reducible rfl
                rotate_left
                · simp only [Act.put, List.setIfInBounds_toArray, List.set_cons_zero, List.set_cons_succ, i64_w, i32_w]
                  rfl
                refine pure_ (i := 18) (N := some 138) (v := ?_) (a' := ?_) #[true, true, true, true, true, true, true, true, true, true, true, true, true, true, true, true, true, true, true, false, false, false, false, false, false, false, false, false, false, false, false, false, false, false, false, false, false, false, false, false, false, false] rfl rfl (by kernel_rfl) (fun _ _ _ h => h) (Or.inl ⟨by rfl, ?_⟩) ?_ ?_
                rotate_left
                · intro w'
                  go_simp
                  with_reducible rfl
                rotate_left
                · simp only [Act.put, List.setIfInBounds_toArray, List.set_cons_zero, List.set_cons_succ, i64_w, i32_w]
                  rfl
                refine pure_ (i := 19) (N := some 139) (v := ?_) (a' := ?_) #[true, true, true, true, true, true, true, true, true, true, true, true, true, true, true, true, true, true, true, true, false, false, false, false, false, false, false, false, false, false, false, false, false, false, false, false, false, false, false, false, false, false] rfl rfl (by kernel_rfl) (fun _ _ _ h => h) (Or.inl ⟨by rfl, ?_⟩) ?_ ?_
                rotate_left
                · intro w'
                  go_simp
                  with_reducible rfl
                rotate_left
                · simp only [Act.put, List.setIfInBounds_toArray, List.set_cons_zero, List.set_cons_succ, i64_w, i32_w]
                  rfl
                refine pure_ (i := 20) (N := some 140) (v := .int .i64 (j : Int)) (a' := ?_) #[true, true, true, true, true, true, true, true, true, true, true, true, true, true, true, true, true, true, true, true, true, false, false, false, false, false, false, false, false, false, false, false, false, false, false, false, false, false, false, false, false, false] rfl rfl (by kernel_rfl) (fun _ _ _ h => h) (Or.inl ⟨by rfl, fun w9 => by go_simp; have h1 := HJI.out; (try rw [i64_w]); unfold wrap64; omega⟩) ?_ ?_
                rotate_left
                · simp only [Act.put, List.setIfInBounds_toArray, List.set_cons_zero, List.set_cons_succ, i64_w, i32_w]
                  rfl
                refine pure_ (i := 21) (N := some 141) (v := ?_) (a' := ?_) #[true, true, true, true, true, true, true, true, true, true, true, true, true, true, true, true, true, true, true, true, true, true, false, false, false, false, false, false, false, false, false, false, false, false, false, false, false, false, false, false, false, false] rfl rfl (by kernel_rfl) (fun _ _ _ h => h) (Or.inl ⟨by rfl, ?_⟩) ?_ ?_
                rotate_left
                · intro w'
                  go_simp
                  with_reducible rfl
                rotate_left
                · simp only [Act.put, List.setIfInBounds_toArray, List.set_cons_zero, List.set_cons_succ, i64_w, i32_w]
                  rfl
                refine pure_ (i := 23) (N := some 143) (v := ?_) (a' := ?_) #[true, true, true, true, true, true, true, true, true, true, true, true, true, true, true, true, true, true, true, true, true, true, false, true, false, false, false, false, false, false, false, false, false, false, false, false, false, false, false, false, false, false] rfl rfl (by kernel_rfl) (fun _ _ _ h => h) (Or.inl ⟨by rfl, ?_⟩) ?_ ?_
                rotate_left
                · intro w'
                  go_simp
                  with_reducible rfl
                rotate_left
                · simp only [Act.put, List.setIfInBounds_toArray, List.set_cons_zero, List.set_cons_succ, i64_w, i32_w]
                  rfl
                refine pure_ (i := 24) (N := some 144) (v := ?_) (a' := ?_) #[true, true, true, true, true, true, true, true, true, true, true, true, true, true, true, true, true, true, true, true, true, true, false, true, true, false, false, false, false, false, false, false, false, false, false, false, false, false, false, false, false, false] rfl rfl (by kernel_rfl) (fun _ _ _ h => h) (Or.inl ⟨by rfl, ?_⟩) ?_ ?_
                rotate_left
                · intro w'
                  go_simp
                  with_reducible rfl
                rotate_left
                · simp only [Act.put, List.setIfInBounds_toArray, List.set_cons_zero, List.set_cons_succ, i64_w, i32_w]
                  rfl
                refine pure_ (i := 25) (N := some 145) (v := ?_) (a' := ?_) #[true, true, true, true, true, true, true, true, true, true, true, true, true, true, true, true, true, true, true, true, true, true, false, true, true, true, false, false, false, false, false, false, false, false, false, false, false, false, false, false, false, false] rfl rfl (by kernel_rfl) (fun _ _ _ h => h) (Or.inl ⟨by rfl, ?_⟩) ?_ ?_
                rotate_left
                · intro w'
                  go_simp
                  with_reducible rfl
                rotate_left
                · simp only [Act.put, List.setIfInBounds_toArray, List.set_cons_zero, List.set_cons_succ, i64_w, i32_w]
                  rfl
                refine take_ (i := 22) (N := some 142) (v := ?_) (a' := ?_) #[true, true, true, true, true, true, true, true, true, true, true, true, true, true, true, true, true, true, true, true, true, true, true, true, true, true, false, false, false, false, false, false, false, false, false, false, false, false, false, false, false, false] rfl rfl (by kernel_rfl) (fun _ _ _ h => h) (Or.inl ⟨by rfl, ?_⟩) hHeld ?_ ?_
                rotate_left
                · rintro w' ⟨s0, s1, s2, s3, s4⟩
                  go_simp
                  with_reducible rfl
                rotate_left
                · simp only [Act.put, List.setIfInBounds_toArray, List.set_cons_zero, List.set_cons_succ, i64_w, i32_w]
                  rfl
                refine take_ (i := 26) (N := some 146) (v := ?_) (a' := ?_) #[true, true, true, true, true, true, true, true, true, true, true, true, true, true, true, true, true, true, true, true, true, true, true, true, true, true, true, false, false, false, false, false, false, false, false, false, false, false, false, false, false, false] rfl rfl (by kernel_rfl) (fun _ _ _ h => h) (Or.inl ⟨by rfl, ?_⟩) hHeld ?_ ?_
                rotate_left
                · rintro w' ⟨s0, s1, s2, s3, s4⟩
                  go_simp
                  with_reducible rfl
                rotate_left
                · simp only [Act.put, List.setIfInBounds_toArray, List.set_cons_zero, List.set_cons_succ, i64_w, i32_w]
                  rfl
                refine pure_ (i := 27) (N := some 147) (v := ?_) (a' := ?_) #[true, true, true, true, true, true, true, true, true, true, true, true, true, true, true, true, true, true, true, true, true, true, true, true, true, true, true, true, false, false, false, false, false, false, false, false, false, false, false, false, false, false] rfl rfl (by kernel_rfl) (fun _ _ _ h => h) (Or.inl ⟨by rfl, ?_⟩) ?_ ?_
                rotate_left
                · intro w'
                  go_simp
                  with_reducible rfl
                rotate_left
                · simp only [Act.put, List.setIfInBounds_toArray, List.set_cons_zero, List.set_cons_succ, i64_w, i32_w]
                  rfl
                refine pure_ (i := 28) (N := some 148) (v := ?_) (a' := ?_) #[true, true, true, true, true, true, true, true, true, true, true, true, true, true, true, true, true, true, true, true, true, true, true, true, true, true, true, true, true, false, false, false, false, false, false, false, false, false, false, false, false, false] rfl rfl (by kernel_rfl) (fun _ _ _ h => h) (Or.inl ⟨by rfl, ?_⟩) ?_ ?_
                rotate_left
                · intro w'
                  go_simp
                  with_reducible rfl
                rotate_left
                · simp only [Act.put, List.setIfInBounds_toArray, List.set_cons_zero, List.set_cons_succ, i64_w, i32_w]
                  rfl
                refine pure_ (i := 29) (N := some 149) (v := ?_) (a' := ?_) #[true, true, true, true, true, true, true, true, true, true, true, true, true, true, true, true, true, true, true, true, true, true, true, true, true, true, true, true, true, true, false, false, false, false, false, false, false, false, false, false, false, false] rfl rfl (by kernel_rfl) (fun _ _ _ h => h) (Or.inl ⟨by rfl, ?_⟩) ?_ ?_
                rotate_left
                · intro w'
                  go_simp
                  with_reducible rfl
                rotate_left
                · simp only [Act.put, List.setIfInBounds_toArray, List.set_cons_zero, List.set_cons_succ, i64_w, i32_w]
                  rfl
                refine pure_ (i := 30) (N := some 150) (v := undef) (a' := ?_) #[true, true, true, true, true, true, true, true, true, true, true, true, true, true, true, true, true, true, true, true, true, true, true, true, true, true, true, true, true, true, true, false, false, false, false, false, false, false, false, false, false, false] rfl rfl (by kernel_rfl) (fun _ _ _ h => h) (Or.inr ⟨by rfl, rfl⟩) ?_ ?_
                rotate_left
                · simp only [Act.put, List.setIfInBounds_toArray, List.set_cons_zero, List.set_cons_succ, i64_w, i32_w]
                  rfl
                refine pure_ (i := 31) (N := some 151) (v := undef) (a' := ?_) #[true, true, true, true, true, true, true, true, true, true, true, true, true, true, true, true, true, true, true, true, true, true, true, true, true, true, true, true, true, true, true, true, false, false, false, false, false, false, false, false, false, false] rfl rfl (by kernel_rfl) (fun _ _ _ h => h) (Or.inr ⟨by rfl, rfl⟩) ?_ ?_
                rotate_left
                · simp only [Act.put, List.setIfInBounds_toArray, List.set_cons_zero, List.set_cons_succ, i64_w, i32_w]
                  rfl
                refine pure_ (i := 32) (N := some 152) (v := undef) (a' := ?_) #[true, true, true, true, true, true, true, true, true, true, true, true, true, true, true, true, true, true, true, true, true, true, true, true, true, true, true, true, true, true, true, true, true, false, false, false, false, false, false, false, false, false] rfl rfl (by kernel_rfl) (fun _ _ _ h => h) (Or.inr ⟨by rfl, rfl⟩) ?_ ?_
                rotate_left
                · simp only [Act.put, List.setIfInBounds_toArray, List.set_cons_zero, List.set_cons_succ, i64_w, i32_w]
                  rfl
                refine pure_ (i := 33) (N := some 153) (v := undef) (a' := ?_) #[true, true, true, true, true, true, true, true, true, true, true, true, true, true, true, true, true, true, true, true, true, true, true, true, true, true, true, true, true, true, true, true, true, true, false, false, false, false, false, false, false, false] rfl rfl (by kernel_rfl) (fun _ _ _ h => h) (Or.inr ⟨by rfl, rfl⟩) ?_ ?_
                rotate_left
                · simp only [Act.put, List.setIfInBounds_toArray, List.set_cons_zero, List.set_cons_succ, i64_w, i32_w]
                  rfl
                refine pure_ (i := 34) (N := some 154) (v := undef) (a' := ?_) #[true, true, true, true, true, true, true, true, true, true, true, true, true, true, true, true, true, true, true, true, true, true, true, true, true, true, true, true, true, true, true, true, true, true, true, false, false, false, false, false, false, false] rfl rfl (by kernel_rfl) (fun _ _ _ h => h) (Or.inr ⟨by rfl, rfl⟩) ?_ ?_
                rotate_left
                · simp only [Act.put, List.setIfInBounds_toArray, List.set_cons_zero, List.set_cons_succ, i64_w, i32_w]
                  rfl
                refine pure_ (i := 35) (N := some 155) (v := undef) (a' := ?_) #[true, true, true, true, true, true, true, true, true, true, true, true, true, true, true, true, true, true, true, true, true, true, true, true, true, true, true, true, true, true, true, true, true, true, true, true, false, false, false, false, false, false] rfl rfl (by kernel_rfl) (fun _ _ _ h => h) (Or.inr ⟨by rfl, rfl⟩) ?_ ?_
                rotate_left
                · simp only [Act.put, List.setIfInBounds_toArray, List.set_cons_zero, List.set_cons_succ, i64_w, i32_w]
                  rfl
                refine pure_ (i := 36) (N := some 156) (v := undef) (a' := ?_) #[true, true, true, true, true, true, true, true, true, true, true, true, true, true, true, true, true, true, true, true, true, true, true, true, true, true, true, true, true, true, true, true, true, true, true, true, true, false, false, false, false, false] rfl rfl (by kernel_rfl) (fun _ _ _ h => h) (Or.inr ⟨by rfl, rfl⟩) ?_ ?_
                rotate_left
                · simp only [Act.put, List.setIfInBounds_toArray, List.set_cons_zero, List.set_cons_succ, i64_w, i32_w]
                  rfl
                refine pure_ (i := 37) (N := some 157) (v := undef) (a' := ?_) #[true, true, true, true, true, true, true, true, true, true, true, true, true, true, true, true, true, true, true, true, true, true, true, true, true, true, true, true, true, true, true, true, true, true, true, true, true, true, false, false, false, false] rfl rfl (by kernel_rfl) (fun _ _ _ h => h) (Or.inr ⟨by rfl, rfl⟩) ?_ ?_
                rotate_left
                · simp only [Act.put, List.setIfInBounds_toArray, List.set_cons_zero, List.set_cons_succ, i64_w, i32_w]
                  rfl
                refine pure_ (i := 38) (N := some 158) (v := undef) (a' := ?_) #[true, true, true, true, true, true, true, true, true, true, true, true, true, true, true, true, true, true, true, true, true, true, true, true, true, true, true, true, true, true, true, true, true, true, true, true, true, true, true, false, false, false] rfl rfl (by kernel_rfl) (fun _ _ _ h => h) (Or.inr ⟨by rfl, rfl⟩) ?_ ?_
                rotate_left
                · simp only [Act.put, List.setIfInBounds_toArray, List.set_cons_zero, List.set_cons_succ, i64_w, i32_w]
                  rfl
                refine pure_ (i := 39) (N := some 159) (v := undef) (a' := ?_) #[true, true, true, true, true, true, true, true, true, true, true, true, true, true, true, true, true, true, true, true, true, true, true, true, true, true, true, true, true, true, true, true, true, true, true, true, true, true, true, true, false, false] rfl rfl (by kernel_rfl) (fun _ _ _ h => h) (Or.inr ⟨by rfl, rfl⟩) ?_ ?_
                rotate_left
                · simp only [Act.put, List.setIfInBounds_toArray, List.set_cons_zero, List.set_cons_succ, i64_w, i32_w]
                  rfl
                refine pure_ (i := 40) (N := some 160) (v := ?_) (a' := ?_) #[true, true, true, true, true, true, true, true, true, true, true, true, true, true, true, true, true, true, true, true, true, true, true, true, true, true, true, true, true, true, true, true, true, true, true, true, true, true, true, true, true, false] rfl rfl (by kernel_rfl) (fun _ _ _ h => h) (Or.inl ⟨by rfl, ?_⟩) ?_ ?_
                rotate_left
                · intro w'
                  go_simp
                  with_reducible rfl
                rotate_left
                · simp only [Act.put, List.setIfInBounds_toArray, List.set_cons_zero, List.set_cons_succ, i64_w, i32_w]
                  rfl
                refine pure_ (i := 41) (N := some 161) (v := ?_) (a' := ?_) #[true, true, true, true, true, true, true, true, true, true, true, true, true, true, true, true, true, true, true, true, true, true, true, true, true, true, true, true, true, true, true, true, true, true, true, true, true, true, true, true, true, true] rfl rfl (by kernel_rfl) (fun _ _ _ h => h) (Or.inl ⟨by rfl, ?_⟩) ?_ ?_
                rotate_left
                · intro w'
                  go_simp
                  with_reducible rfl
                rotate_left
                · simp only [Act.put, List.setIfInBounds_toArray, List.set_cons_zero, List.set_cons_succ, i64_w, i32_w]
                  rfl
                refine done_ (by kernel_rfl) ?_
                have hb := HD.out
                clear HD HC hHeld HCNT HZ0 HZ1 HWJ HWK
                replace K3 := Aside0.mk (blk_below K3.out hb)
                replace K4 := Aside0.mk (blk_below K4.out hb)
                replace HCA := Aside0.mk (Kd.C_below HCA.out hb)
                replace HB := Aside0.mk (HB.out.trans (hb.mono HB.out.size))
                clear hb
                go_wp2_with fail
                go_roundg (NC - (i + 1))
                case measure => omega
                case rel => exact ⟨i + 1, by go_num, by omega, HCA, K3, K4, HB⟩
              ·
                have HRC : Aside0 (∀ W, Below wr.heap.size wr W → Calls Try.prog 37 #[.slice (some pc) NC cc, .int .i64 (i : Int)] W fun e w' => e = .returned (.int .i64 (ct : Nat)) ∧ Below W.heap.size W w') := ⟨fun W hW => by
                  have h := run_calls (some pc) cc al i W (Kd.C_below HCA.out hW) (by rw [HLA.out]; exact HCC2.out) (by rw [HLA.out]; omega) hia
                  rw [HLA.out, HRUN.out.2 j HJI.out hja heq, HCNT.out] at h
                  exact h⟩
                have HCN : Aside0 (∀ W, Below wr.heap.size wr W → Calls Try.prog 36 #[.agg #[.int .i64 b, .int .i64 d, .slice A L c], .int .i64 al[i]] W fun e w' => e = .returned (.int .i64 (ct : Nat)) ∧ Below W.heap.size W w') := ⟨fun W hW => by
                  have h := count_calls b d A c ws al[i] W (Kd.C_below HCC.out (HB.out.trans (hW.mono HB.out.size))) (by rw [HLL.out]; exact hcap) HZ.out
                  rw [HLL.out, HCNT.out] at h
                  exact h⟩
                have hlt2 : al[j] < al[i] := by omega
                clear heq hle HRUN
                generalize al[i] = y at *
                generalize al[j] = yj at *
                have hnl : (y < yj) = False := by simp; omega
                have hnb : (yj != y) = true := by simp; omega
                have hna : (yj = y) = False := by simp; omega
                clear hia z1 h0 hj
                go_upto_region 26 with fail
                have HD : Aside0 (Below wr.heap.size wr wr.drew) := ⟨(Below.refl _ _).drew⟩
                have HC : Aside0 (∀ W, Below wr.heap.size wr W → W.cell? ⟨b3, 0, none⟩ = some (.int .i64 b) ∧ W.cell? ⟨b3, 1, none⟩ = some (.int .i64 d) ∧ W.cell? ⟨b3, 2, none⟩ = some (.slice A L c) ∧ W.cell? (pc.add i) = some (.int .i64 y) ∧ W.cell? (pc.add j) = some (.int .i64 yj)) := ⟨fun W hW => ⟨(blk_cell (blk_below K3.out hW) 0).trans rfl, (blk_cell (blk_below K3.out hW) 1).trans rfl, (blk_cell (blk_below K3.out hW) 2).trans rfl, pw_cell_below hW HZ0.out, pw_cell_below hW HZ1.out⟩⟩
                refine start_ (n := 42) (S := fun w' => w'.cell? ⟨b3, 0, none⟩ = some (.int .i64 b) ∧ w'.cell? ⟨b3, 1, none⟩ = some (.int .i64 d) ∧ w'.cell? ⟨b3, 2, none⟩ = some (.slice A L c) ∧ w'.cell? (pc.add i) = some (.int .i64 y) ∧ w'.cell? (pc.add j) = some (.int .i64 yj)) (ds := []) #[false, false, false, false, false, false, false, false, false, false, false, false, false, false, false, false, false, false, false, false, false, false, false, false, false, false, false, false, false, false, false, false, false, false, false, false, false, false, false, false, false, false] (by kernel_rfl) rfl rfl (HC.out _ HD.out) (fun hHeld => ?_)
                refine pure_ (i := 0) (N := some 120) (v := ?_) (a' := ?_) #[true, false, false, false, false, false, false, false, false, false, false, false, false, false, false, false, false, false, false, false, false, false, false, false, false, false, false, false, false, false, false, false, false, false, false, false, false, false, false, false, false, false] rfl rfl (by kernel_rfl) (fun _ _ _ h => h) (Or.inl ⟨by rfl, ?_⟩) ?_ ?_
                rotate_left
                · intro w'
                  go_simp
                  with_reducible rfl
                rotate_left
                · simp only [Act.put, List.setIfInBounds_toArray, List.set_cons_zero, List.set_cons_succ, i64_w, i32_w]
                  rfl
                refine pure_ (i := 1) (N := some 121) (v := ?_) (a' := ?_) #[true, true, false, false, false, false, false, false, false, false, false, false, false, false, false, false, false, false, false, false, false, false, false, false, false, false, false, false, false, false, false, false, false, false, false, false, false, false, false, false, false, false] rfl rfl (by kernel_rfl) (fun _ _ _ h => h) (Or.inl ⟨by rfl, ?_⟩) ?_ ?_
                rotate_left
                · intro w'
                  go_simp
                  with_reducible rfl
                rotate_left
                · simp only [Act.put, List.setIfInBounds_toArray, List.set_cons_zero, List.set_cons_succ, i64_w, i32_w]
                  rfl
                refine pure_ (i := 2) (N := some 122) (v := ?_) (a' := ?_) #[true, true, true, false, false, false, false, false, false, false, false, false, false, false, false, false, false, false, false, false, false, false, false, false, false, false, false, false, false, false, false, false, false, false, false, false, false, false, false, false, false, false] rfl rfl (by kernel_rfl) (fun _ _ _ h => h) (Or.inl ⟨by rfl, ?_⟩) ?_ ?_
                rotate_left
                · intro w'
                  go_simp
                  with_reducible rfl
                rotate_left
                · simp only [Act.put, List.setIfInBounds_toArray, List.set_cons_zero, List.set_cons_succ, i64_w, i32_w]
                  rfl
                refine pure_ (i := 3) (N := some 123) (v := ?_) (a' := ?_) #[true, true, true, true, false, false, false, false, false, false, false, false, false, false, false, false, false, false, false, false, false, false, false, false, false, false, false, false, false, false, false, false, false, false, false, false, false, false, false, false, false, false] rfl rfl (by kernel_rfl) (fun _ _ _ h => h) (Or.inl ⟨by rfl, ?_⟩) ?_ ?_
                rotate_left
                · intro w'
                  go_simp
                  with_reducible rfl
                rotate_left
                · simp only [Act.put, List.setIfInBounds_toArray, List.set_cons_zero, List.set_cons_succ, i64_w, i32_w]
                  rfl
                refine pure_ (i := 4) (N := some 124) (v := ?_) (a' := ?_) #[true, true, true, true, true, false, false, false, false, false, false, false, false, false, false, false, false, false, false, false, false, false, false, false, false, false, false, false, false, false, false, false, false, false, false, false, false, false, false, false, false, false] rfl rfl (by kernel_rfl) (fun _ _ _ h => h) (Or.inl ⟨by rfl, ?_⟩) ?_ ?_
                rotate_left
                · intro w'
                  go_simp
                  with_reducible rfl
                rotate_left
                · simp only [Act.put, List.setIfInBounds_toArray, List.set_cons_zero, List.set_cons_succ, i64_w, i32_w]
                  rfl
                refine pure_ (i := 5) (N := some 125) (v := .int .i64 (j : Int)) (a' := ?_) #[true, true, true, true, true, true, false, false, false, false, false, false, false, false, false, false, false, false, false, false, false, false, false, false, false, false, false, false, false, false, false, false, false, false, false, false, false, false, false, false, false, false] rfl rfl (by kernel_rfl) (fun _ _ _ h => h) (Or.inl ⟨by rfl, fun w9 => by go_simp; have h1 := HJI.out; (try rw [i64_w]); unfold wrap64; omega⟩) ?_ ?_
                rotate_left
                · simp only [Act.put, List.setIfInBounds_toArray, List.set_cons_zero, List.set_cons_succ, i64_w, i32_w]
                  rfl
                refine pure_ (i := 6) (N := some 126) (v := ?_) (a' := ?_) #[true, true, true, true, true, true, true, false, false, false, false, false, false, false, false, false, false, false, false, false, false, false, false, false, false, false, false, false, false, false, false, false, false, false, false, false, false, false, false, false, false, false] rfl rfl (by kernel_rfl) (fun _ _ _ h => h) (Or.inl ⟨by rfl, ?_⟩) ?_ ?_
                rotate_left
                · intro w'
                  go_simp
                  with_reducible rfl
                rotate_left
                · simp only [Act.put, List.setIfInBounds_toArray, List.set_cons_zero, List.set_cons_succ, i64_w, i32_w]
                  rfl
                refine pure_ (i := 8) (N := some 128) (v := ?_) (a' := ?_) #[true, true, true, true, true, true, true, false, true, false, false, false, false, false, false, false, false, false, false, false, false, false, false, false, false, false, false, false, false, false, false, false, false, false, false, false, false, false, false, false, false, false] rfl rfl (by kernel_rfl) (fun _ _ _ h => h) (Or.inl ⟨by rfl, ?_⟩) ?_ ?_
                rotate_left
                · intro w'
                  go_simp
                  with_reducible rfl
                rotate_left
                · simp only [Act.put, List.setIfInBounds_toArray, List.set_cons_zero, List.set_cons_succ, i64_w, i32_w]
                  rfl
                refine pure_ (i := 9) (N := some 129) (v := ?_) (a' := ?_) #[true, true, true, true, true, true, true, false, true, true, false, false, false, false, false, false, false, false, false, false, false, false, false, false, false, false, false, false, false, false, false, false, false, false, false, false, false, false, false, false, false, false] rfl rfl (by kernel_rfl) (fun _ _ _ h => h) (Or.inl ⟨by rfl, ?_⟩) ?_ ?_
                rotate_left
                · intro w'
                  go_simp
                  with_reducible rfl
                rotate_left
                · simp only [Act.put, List.setIfInBounds_toArray, List.set_cons_zero, List.set_cons_succ, i64_w, i32_w]
                  rfl
                refine pure_ (i := 10) (N := some 130) (v := ?_) (a' := ?_) #[true, true, true, true, true, true, true, false, true, true, true, false, false, false, false, false, false, false, false, false, false, false, false, false, false, false, false, false, false, false, false, false, false, false, false, false, false, false, false, false, false, false] rfl rfl (by kernel_rfl) (fun _ _ _ h => h) (Or.inl ⟨by rfl, ?_⟩) ?_ ?_
                rotate_left
                · intro w'
                  go_simp
                  with_reducible rfl
                rotate_left
                · simp only [Act.put, List.setIfInBounds_toArray, List.set_cons_zero, List.set_cons_succ, i64_w, i32_w]
                  rfl
                refine take_ (i := 7) (N := some 127) (v := ?_) (a' := ?_) #[true, true, true, true, true, true, true, true, true, true, true, false, false, false, false, false, false, false, false, false, false, false, false, false, false, false, false, false, false, false, false, false, false, false, false, false, false, false, false, false, false, false] rfl rfl (by kernel_rfl) (fun _ _ _ h => h) (Or.inl ⟨by rfl, ?_⟩) hHeld ?_ ?_
                rotate_left
                · rintro w' ⟨s0, s1, s2, s3, s4⟩
                  go_simp
                  with_reducible rfl
                rotate_left
                · simp only [Act.put, List.setIfInBounds_toArray, List.set_cons_zero, List.set_cons_succ, i64_w, i32_w]
                  rfl
                refine take_ (i := 11) (N := some 131) (v := ?_) (a' := ?_) #[true, true, true, true, true, true, true, true, true, true, true, true, false, false, false, false, false, false, false, false, false, false, false, false, false, false, false, false, false, false, false, false, false, false, false, false, false, false, false, false, false, false] rfl rfl (by kernel_rfl) (fun _ _ _ h => h) (Or.inl ⟨by rfl, ?_⟩) hHeld ?_ ?_
                rotate_left
                · rintro w' ⟨s0, s1, s2, s3, s4⟩
                  go_simp
                  with_reducible rfl
                rotate_left
                · simp only [Act.put, List.setIfInBounds_toArray, List.set_cons_zero, List.set_cons_succ, i64_w, i32_w]
                  rfl
                refine pure_ (i := 12) (N := some 132) (v := ?_) (a' := ?_) #[true, true, true, true, true, true, true, true, true, true, true, true, true, false, false, false, false, false, false, false, false, false, false, false, false, false, false, false, false, false, false, false, false, false, false, false, false, false, false, false, false, false] rfl rfl (by kernel_rfl) (fun _ _ _ h => h) (Or.inl ⟨by rfl, ?_⟩) ?_ ?_
                rotate_left
                · intro w'
                  go_simp
                  with_reducible rfl
                rotate_left
                · simp only [Act.put, List.setIfInBounds_toArray, List.set_cons_zero, List.set_cons_succ, i64_w, i32_w]
                  rfl
                refine pure_ (i := 13) (N := some 133) (v := ?_) (a' := ?_) #[true, true, true, true, true, true, true, true, true, true, true, true, true, true, false, false, false, false, false, false, false, false, false, false, false, false, false, false, false, false, false, false, false, false, false, false, false, false, false, false, false, false] rfl rfl (by kernel_rfl) (fun _ _ _ h => h) (Or.inl ⟨by rfl, ?_⟩) ?_ ?_
                rotate_left
                · intro w'
                  go_simp
                  with_reducible rfl
                rotate_left
                · simp only [Act.put, List.setIfInBounds_toArray, List.set_cons_zero, List.set_cons_succ, i64_w, i32_w]
                  rfl
                refine pure_ (i := 14) (N := some 134) (v := ?_) (a' := ?_) #[true, true, true, true, true, true, true, true, true, true, true, true, true, true, true, false, false, false, false, false, false, false, false, false, false, false, false, false, false, false, false, false, false, false, false, false, false, false, false, false, false, false] rfl rfl (by kernel_rfl) (fun _ _ _ h => h) (Or.inl ⟨by rfl, ?_⟩) ?_ ?_
                rotate_left
                · intro w'
                  go_simp
                  with_reducible rfl
                rotate_left
                · simp only [Act.put, List.setIfInBounds_toArray, List.set_cons_zero, List.set_cons_succ, i64_w, i32_w]
                  rfl
                refine pure_ (i := 15) (N := some 135) (v := ?_) (a' := ?_) #[true, true, true, true, true, true, true, true, true, true, true, true, true, true, true, true, false, false, false, false, false, false, false, false, false, false, false, false, false, false, false, false, false, false, false, false, false, false, false, false, false, false] rfl rfl (by kernel_rfl) (fun _ _ _ h => h) (Or.inl ⟨by rfl, ?_⟩) ?_ ?_
                rotate_left
                · intro w'
                  go_simp
                  with_reducible rfl
                rotate_left
                · simp only [Act.put, List.setIfInBounds_toArray, List.set_cons_zero, List.set_cons_succ, i64_w, i32_w]
                  rfl
                refine pure_ (i := 16) (N := some 136) (v := ?_) (a' := ?_) #[true, true, true, true, true, true, true, true, true, true, true, true, true, true, true, true, true, false, false, false, false, false, false, false, false, false, false, false, false, false, false, false, false, false, false, false, false, false, false, false, false, false] rfl rfl (by kernel_rfl) (fun _ _ _ h => h) (Or.inl ⟨by rfl, ?_⟩) ?_ ?_
                rotate_left
                · intro w'
                  go_simp
                  with_reducible rfl
                rotate_left
                · simp only [Act.put, List.setIfInBounds_toArray, List.set_cons_zero, List.set_cons_succ, i64_w, i32_w]
                  rfl
                refine pure_ (i := 17) (N := some 137) (v := ?_) (a' := ?_) #[true, true, true, true, true, true, true, true, true, true, true, true, true, true, true, true, true, true, false, false, false, false, false, false, false, false, false, false, false, false, false, false, false, false, false, false, false, false, false, false, false, false] rfl rfl (by kernel_rfl) (fun _ _ _ h => h) (Or.inl ⟨by rfl, ?_⟩) ?_ ?_
                rotate_left
                · intro w'
                  go_simp
                  with_reducible rfl
                rotate_left
                · simp only [Act.put, List.setIfInBounds_toArray, List.set_cons_zero, List.set_cons_succ, i64_w, i32_w]
                  rfl
                refine pure_ (i := 18) (N := some 138) (v := ?_) (a' := ?_) #[true, true, true, true, true, true, true, true, true, true, true, true, true, true, true, true, true, true, true, false, false, false, false, false, false, false, false, false, false, false, false, false, false, false, false, false, false, false, false, false, false, false] rfl rfl (by kernel_rfl) (fun _ _ _ h => h) (Or.inl ⟨by rfl, ?_⟩) ?_ ?_
                rotate_left
                · intro w'
                  go_simp
                  with_reducible rfl
                rotate_left
                · simp only [Act.put, List.setIfInBounds_toArray, List.set_cons_zero, List.set_cons_succ, i64_w, i32_w]
                  rfl
                refine pure_ (i := 19) (N := some 139) (v := ?_) (a' := ?_) #[true, true, true, true, true, true, true, true, true, true, true, true, true, true, true, true, true, true, true, true, false, false, false, false, false, false, false, false, false, false, false, false, false, false, false, false, false, false, false, false, false, false] rfl rfl (by kernel_rfl) (fun _ _ _ h => h) (Or.inl ⟨by rfl, ?_⟩) ?_ ?_
                rotate_left
                · intro w'
                  go_simp
                  with_reducible rfl
                rotate_left
                · simp only [Act.put, List.setIfInBounds_toArray, List.set_cons_zero, List.set_cons_succ, i64_w, i32_w]
                  rfl
                refine pure_ (i := 20) (N := some 140) (v := .int .i64 (j : Int)) (a' := ?_) #[true, true, true, true, true, true, true, true, true, true, true, true, true, true, true, true, true, true, true, true, true, false, false, false, false, false, false, false, false, false, false, false, false, false, false, false, false, false, false, false, false, false] rfl rfl (by kernel_rfl) (fun _ _ _ h => h) (Or.inl ⟨by rfl, fun w9 => by go_simp; have h1 := HJI.out; (try rw [i64_w]); unfold wrap64; omega⟩) ?_ ?_
                rotate_left
                · simp only [Act.put, List.setIfInBounds_toArray, List.set_cons_zero, List.set_cons_succ, i64_w, i32_w]
                  rfl
                refine pure_ (i := 21) (N := some 141) (v := ?_) (a' := ?_) #[true, true, true, true, true, true, true, true, true, true, true, true, true, true, true, true, true, true, true, true, true, true, false, false, false, false, false, false, false, false, false, false, false, false, false, false, false, false, false, false, false, false] rfl rfl (by kernel_rfl) (fun _ _ _ h => h) (Or.inl ⟨by rfl, ?_⟩) ?_ ?_
                rotate_left
                · intro w'
                  go_simp
                  with_reducible rfl
                rotate_left
                · simp only [Act.put, List.setIfInBounds_toArray, List.set_cons_zero, List.set_cons_succ, i64_w, i32_w]
                  rfl
                refine pure_ (i := 23) (N := some 143) (v := ?_) (a' := ?_) #[true, true, true, true, true, true, true, true, true, true, true, true, true, true, true, true, true, true, true, true, true, true, false, true, false, false, false, false, false, false, false, false, false, false, false, false, false, false, false, false, false, false] rfl rfl (by kernel_rfl) (fun _ _ _ h => h) (Or.inl ⟨by rfl, ?_⟩) ?_ ?_
                rotate_left
                · intro w'
                  go_simp
                  with_reducible rfl
                rotate_left
                · simp only [Act.put, List.setIfInBounds_toArray, List.set_cons_zero, List.set_cons_succ, i64_w, i32_w]
                  rfl
                refine pure_ (i := 24) (N := some 144) (v := ?_) (a' := ?_) #[true, true, true, true, true, true, true, true, true, true, true, true, true, true, true, true, true, true, true, true, true, true, false, true, true, false, false, false, false, false, false, false, false, false, false, false, false, false, false, false, false, false] rfl rfl (by kernel_rfl) (fun _ _ _ h => h) (Or.inl ⟨by rfl, ?_⟩) ?_ ?_
                rotate_left
                · intro w'
                  go_simp
                  with_reducible rfl
                rotate_left
                · simp only [Act.put, List.setIfInBounds_toArray, List.set_cons_zero, List.set_cons_succ, i64_w, i32_w]
                  rfl
                refine pure_ (i := 25) (N := some 145) (v := ?_) (a' := ?_) #[true, true, true, true, true, true, true, true, true, true, true, true, true, true, true, true, true, true, true, true, true, true, false, true, true, true, false, false, false, false, false, false, false, false, false, false, false, false, false, false, false, false] rfl rfl (by kernel_rfl) (fun _ _ _ h => h) (Or.inl ⟨by rfl, ?_⟩) ?_ ?_
                rotate_left
                · intro w'
                  go_simp
                  with_reducible rfl
                rotate_left
                · simp only [Act.put, List.setIfInBounds_toArray, List.set_cons_zero, List.set_cons_succ, i64_w, i32_w]
                  rfl
                refine take_ (i := 22) (N := some 142) (v := ?_) (a' := ?_) #[true, true, true, true, true, true, true, true, true, true, true, true, true, true, true, true, true, true, true, true, true, true, true, true, true, true, false, false, false, false, false, false, false, false, false, false, false, false, false, false, false, false] rfl rfl (by kernel_rfl) (fun _ _ _ h => h) (Or.inl ⟨by rfl, ?_⟩) hHeld ?_ ?_
                rotate_left
                · rintro w' ⟨s0, s1, s2, s3, s4⟩
                  go_simp
                  with_reducible rfl
                rotate_left
                · simp only [Act.put, List.setIfInBounds_toArray, List.set_cons_zero, List.set_cons_succ, i64_w, i32_w]
                  rfl
                refine take_ (i := 26) (N := some 146) (v := ?_) (a' := ?_) #[true, true, true, true, true, true, true, true, true, true, true, true, true, true, true, true, true, true, true, true, true, true, true, true, true, true, true, false, false, false, false, false, false, false, false, false, false, false, false, false, false, false] rfl rfl (by kernel_rfl) (fun _ _ _ h => h) (Or.inl ⟨by rfl, ?_⟩) hHeld ?_ ?_
                rotate_left
                · rintro w' ⟨s0, s1, s2, s3, s4⟩
                  go_simp
                  with_reducible rfl
                rotate_left
                · simp only [Act.put, List.setIfInBounds_toArray, List.set_cons_zero, List.set_cons_succ, i64_w, i32_w]
                  rfl
                refine pure_ (i := 27) (N := some 147) (v := ?_) (a' := ?_) #[true, true, true, true, true, true, true, true, true, true, true, true, true, true, true, true, true, true, true, true, true, true, true, true, true, true, true, true, false, false, false, false, false, false, false, false, false, false, false, false, false, false] rfl rfl (by kernel_rfl) (fun _ _ _ h => h) (Or.inl ⟨by rfl, ?_⟩) ?_ ?_
                rotate_left
                · intro w'
                  go_simp
                  with_reducible rfl
                rotate_left
                · simp only [Act.put, List.setIfInBounds_toArray, List.set_cons_zero, List.set_cons_succ, i64_w, i32_w]
                  rfl
                refine pure_ (i := 28) (N := some 148) (v := ?_) (a' := ?_) #[true, true, true, true, true, true, true, true, true, true, true, true, true, true, true, true, true, true, true, true, true, true, true, true, true, true, true, true, true, false, false, false, false, false, false, false, false, false, false, false, false, false] rfl rfl (by kernel_rfl) (fun _ _ _ h => h) (Or.inl ⟨by rfl, ?_⟩) ?_ ?_
                rotate_left
                · intro w'
                  go_simp
                  with_reducible rfl
                rotate_left
                · simp only [Act.put, List.setIfInBounds_toArray, List.set_cons_zero, List.set_cons_succ, i64_w, i32_w]
                  rfl
                refine pure_ (i := 29) (N := some 149) (v := ?_) (a' := ?_) #[true, true, true, true, true, true, true, true, true, true, true, true, true, true, true, true, true, true, true, true, true, true, true, true, true, true, true, true, true, true, false, false, false, false, false, false, false, false, false, false, false, false] rfl rfl (by kernel_rfl) (fun _ _ _ h => h) (Or.inl ⟨by rfl, ?_⟩) ?_ ?_
                rotate_left
                · intro w'
                  go_simp
                  with_reducible rfl
                rotate_left
                · simp only [Act.put, List.setIfInBounds_toArray, List.set_cons_zero, List.set_cons_succ, i64_w, i32_w]
                  rfl
                refine pure_ (i := 31) (N := some 151) (v := ?_) (a' := ?_) #[true, true, true, true, true, true, true, true, true, true, true, true, true, true, true, true, true, true, true, true, true, true, true, true, true, true, true, true, true, true, false, true, false, false, false, false, false, false, false, false, false, false] rfl rfl (by kernel_rfl) (fun _ _ _ h => h) (Or.inl ⟨by rfl, ?_⟩) ?_ ?_
                rotate_left
                · intro w'
                  go_simp
                  with_reducible rfl
                rotate_left
                · simp only [Act.put, List.setIfInBounds_toArray, List.set_cons_zero, List.set_cons_succ, i64_w, i32_w]
                  rfl
                refine pure_ (i := 32) (N := some 152) (v := ?_) (a' := ?_) #[true, true, true, true, true, true, true, true, true, true, true, true, true, true, true, true, true, true, true, true, true, true, true, true, true, true, true, true, true, true, false, true, true, false, false, false, false, false, false, false, false, false] rfl rfl (by kernel_rfl) (fun _ _ _ h => h) (Or.inl ⟨by rfl, ?_⟩) ?_ ?_
                rotate_left
                · intro w'
                  go_simp
                  with_reducible rfl
                rotate_left
                · simp only [Act.put, List.setIfInBounds_toArray, List.set_cons_zero, List.set_cons_succ, i64_w, i32_w]
                  rfl
                refine pure_ (i := 33) (N := some 153) (v := ?_) (a' := ?_) #[true, true, true, true, true, true, true, true, true, true, true, true, true, true, true, true, true, true, true, true, true, true, true, true, true, true, true, true, true, true, false, true, true, true, false, false, false, false, false, false, false, false] rfl rfl (by kernel_rfl) (fun _ _ _ h => h) (Or.inl ⟨by rfl, ?_⟩) ?_ ?_
                rotate_left
                · intro w'
                  go_simp
                  with_reducible rfl
                rotate_left
                · simp only [Act.put, List.setIfInBounds_toArray, List.set_cons_zero, List.set_cons_succ, i64_w, i32_w]
                  rfl
                refine pure_ (i := 36) (N := some 156) (v := ?_) (a' := ?_) #[true, true, true, true, true, true, true, true, true, true, true, true, true, true, true, true, true, true, true, true, true, true, true, true, true, true, true, true, true, true, false, true, true, true, false, false, true, false, false, false, false, false] rfl rfl (by kernel_rfl) (fun _ _ _ h => h) (Or.inl ⟨by rfl, ?_⟩) ?_ ?_
                rotate_left
                · intro w'
                  go_simp
                  with_reducible rfl
                rotate_left
                · simp only [Act.put, List.setIfInBounds_toArray, List.set_cons_zero, List.set_cons_succ, i64_w, i32_w]
                  rfl
                refine pure_ (i := 37) (N := some 157) (v := ?_) (a' := ?_) #[true, true, true, true, true, true, true, true, true, true, true, true, true, true, true, true, true, true, true, true, true, true, true, true, true, true, true, true, true, true, false, true, true, true, false, false, true, true, false, false, false, false] rfl rfl (by kernel_rfl) (fun _ _ _ h => h) (Or.inl ⟨by rfl, ?_⟩) ?_ ?_
                rotate_left
                · intro w'
                  go_simp
                  with_reducible rfl
                rotate_left
                · simp only [Act.put, List.setIfInBounds_toArray, List.set_cons_zero, List.set_cons_succ, i64_w, i32_w]
                  rfl
                refine take_ (i := 30) (N := some 150) (v := ?_) (a' := ?_) #[true, true, true, true, true, true, true, true, true, true, true, true, true, true, true, true, true, true, true, true, true, true, true, true, true, true, true, true, true, true, true, true, true, true, false, false, true, true, false, false, false, false] rfl rfl (by kernel_rfl) (fun _ _ _ h => h) (Or.inl ⟨by rfl, ?_⟩) hHeld ?_ ?_
                rotate_left
                · rintro w' ⟨s0, s1, s2, s3, s4⟩
                  go_simp
                  with_reducible rfl
                rotate_left
                · simp only [Act.put, List.setIfInBounds_toArray, List.set_cons_zero, List.set_cons_succ, i64_w, i32_w]
                  rfl
                refine take_ (i := 34) (N := some 154) (v := ?_) (a' := ?_) #[true, true, true, true, true, true, true, true, true, true, true, true, true, true, true, true, true, true, true, true, true, true, true, true, true, true, true, true, true, true, true, true, true, true, true, false, true, true, false, false, false, false] rfl rfl (by kernel_rfl) (fun _ _ _ h => h) (Or.inl ⟨by rfl, ?_⟩) hHeld ?_ ?_
                rotate_left
                · rintro w' ⟨s0, s1, s2, s3, s4⟩
                  go_simp
                  with_reducible rfl
                rotate_left
                · simp only [Act.put, List.setIfInBounds_toArray, List.set_cons_zero, List.set_cons_succ, i64_w, i32_w]
                  rfl
                refine one_ (i := 35) (N := some 155) #[true, true, true, true, true, true, true, true, true, true, true, true, true, true, true, true, true, true, true, true, true, true, true, true, true, true, true, true, true, true, true, true, true, true, true, true, true, true, false, false, false, false] rfl rfl (by kernel_rfl) (by decide) (fun K hK => ?_)
                refine goes_ Try.func36 (by kernel_rfl) rfl #[.agg #[.int .i64 b, .int .i64 d, .slice A L c], .int .i64 y] (by rfl) rfl rfl (by (try simp only [List.map_toArray, List.map_cons, List.map_nil]); first | done | rfl) ?_
                refine (HCN.out wr.drew HD.out).mono ?_
                rintro e w20 ⟨rfl, hb⟩
                refine ⟨_, rfl, ?_⟩
                replace HD := Aside0.mk (HD.out.trans (hb.mono HD.out.size))
                clear hb
                refine hK.out _ _ (HC.out _ HD.out) (fun hHeld => ?_)
                clear hK K
                refine norm_ (a' := ?_) ?_ ?_
                rotate_left
                · show Act.put _ (some 155) _ = _
                  simp only [Act.put, List.setIfInBounds_toArray, List.set_cons_zero, List.set_cons_succ, i64_w, i32_w]
                  rfl
                refine one_ (i := 38) (N := some 158) #[true, true, true, true, true, true, true, true, true, true, true, true, true, true, true, true, true, true, true, true, true, true, true, true, true, true, true, true, true, true, true, true, true, true, true, true, true, true, true, false, false, false] rfl rfl (by kernel_rfl) (by decide) (fun K hK => ?_)
                refine goes_ Try.func37 (by kernel_rfl) rfl #[.slice (some pc) NC cc, .int .i64 (i : Int)] (by rfl) rfl rfl (by (try simp only [List.map_toArray, List.map_cons, List.map_nil]); first | done | rfl) ?_
                refine (HRC.out w20 HD.out).mono ?_
                rintro e w21 ⟨rfl, hb⟩
                refine ⟨_, rfl, ?_⟩
                replace HD := Aside0.mk (HD.out.trans (hb.mono HD.out.size))
                clear hb
                refine hK.out _ _ (HC.out _ HD.out) (fun hHeld => ?_)
                clear hK K
                refine norm_ (a' := ?_) ?_ ?_
                rotate_left
                · show Act.put _ (some 158) _ = _
                  simp only [Act.put, List.setIfInBounds_toArray, List.set_cons_zero, List.set_cons_succ, i64_w, i32_w]
                  rfl
                refine pure_ (i := 39) (N := some 159) (v := ?_) (a' := ?_) #[true, true, true, true, true, true, true, true, true, true, true, true, true, true, true, true, true, true, true, true, true, true, true, true, true, true, true, true, true, true, true, true, true, true, true, true, true, true, true, true, false, false] rfl rfl (by kernel_rfl) (fun _ _ _ h => h) (Or.inl ⟨by rfl, ?_⟩) ?_ ?_
                rotate_left
                · intro w'
                  go_simp
                  with_reducible rfl
                rotate_left
                · simp only [Act.put, List.setIfInBounds_toArray, List.set_cons_zero, List.set_cons_succ, i64_w, i32_w]
                  rfl
                refine pure_ (i := 40) (N := some 160) (v := ?_) (a' := ?_) #[true, true, true, true, true, true, true, true, true, true, true, true, true, true, true, true, true, true, true, true, true, true, true, true, true, true, true, true, true, true, true, true, true, true, true, true, true, true, true, true, true, false] rfl rfl (by kernel_rfl) (fun _ _ _ h => h) (Or.inl ⟨by rfl, ?_⟩) ?_ ?_
                rotate_left
                · intro w'
                  go_simp
                  with_reducible rfl
                rotate_left
                · simp only [Act.put, List.setIfInBounds_toArray, List.set_cons_zero, List.set_cons_succ, i64_w, i32_w]
                  rfl
                refine pure_ (i := 41) (N := some 161) (v := ?_) (a' := ?_) #[true, true, true, true, true, true, true, true, true, true, true, true, true, true, true, true, true, true, true, true, true, true, true, true, true, true, true, true, true, true, true, true, true, true, true, true, true, true, true, true, true, true] rfl rfl (by kernel_rfl) (fun _ _ _ h => h) (Or.inl ⟨by rfl, ?_⟩) ?_ ?_
                rotate_left
                · intro w'
                  go_simp
                  with_reducible rfl
                rotate_left
                · simp only [Act.put, List.setIfInBounds_toArray, List.set_cons_zero, List.set_cons_succ, i64_w, i32_w]
                  rfl
                refine done_ (by kernel_rfl) ?_
                have hb := HD.out
                clear HD HC hHeld HCNT HZ0 HZ1 HRC HCN HWJ HWK
                replace K3 := Aside0.mk (blk_below K3.out hb)
                replace K4 := Aside0.mk (blk_below K4.out hb)
                replace HCA := Aside0.mk (Kd.C_below HCA.out hb)
                replace HB := Aside0.mk (HB.out.trans (hb.mono HB.out.size))
                clear hb
                go_wp2_with fail
                go_roundg (NC - (i + 1))
                case measure => omega
                case rel => exact ⟨i + 1, by go_num, by omega, HCA, K3, K4, HB⟩
          ·
            have hge : decide (i < NC) = false := decide_eq_false hlt
            clear hi hlt
            obtain ⟨N2, hN2⟩ : ∃ N2, (clus ws2).length = N2 := ⟨_, rfl⟩
            have HN2 := Aside0.mk hN2
            have hn2 : N2 ≤ 600 := by have := HBD2.out.2.2; have := HS2.out; omega
            clear hN2
            have K3c0 := (blk_cell K3.out 0).trans (show _ = some (.int .i64 b) from rfl)
            have K3c1 := (blk_cell K3.out 1).trans (show _ = some (.int .i64 d) from rfl)
            have K3c2 := (blk_cell K3.out 2).trans (show _ = some (.slice A L c) from rfl)
            have K4c0 := (blk_cell K4.out 0).trans (show _ = some (.int .i64 b2) from rfl)
            have K4c1 := (blk_cell K4.out 1).trans (show _ = some (.int .i64 d2) from rfl)
            have K4c2 := (blk_cell K4.out 2).trans (show _ = some (.slice A2 ws2.length c2) from rfl)
            go_wp2_with fail
            clear hge
            have hbx : Below wr.heap.size wr (wr.alloc (Obj.cells #[.int .i64 b, .int .i64 d, .slice A L c, .int .i64 b2, .int .i64 d2, .slice A2 ws2.length c2] 43)) := (Below.refl _ wr).alloc (Nat.le_refl _) _
            have K6 := Aside0.mk (grown_new (w := wr) #[.int .i64 b, .int .i64 d, .slice A L c, .int .i64 b2, .int .i64 d2, .slice A2 ws2.length c2] 43)
            obtain ⟨b6, hb6⟩ : ∃ b, wr.heap.size = b := ⟨_, rfl⟩
            clear K3c0 K3c1 K3c2 K4c0 K4c1 K4c2
            replace K3 := Aside0.mk (blk_below K3.out hbx)
            replace K4 := Aside0.mk (blk_below K4.out hbx)
            replace HCA := Aside0.mk (Kd.C_below HCA.out hbx)
            replace HB := Aside0.mk (HB.out.trans (hbx.mono HB.out.size))
            clear hbx
            generalize wr.alloc (Obj.cells #[.int .i64 b, .int .i64 d, .slice A L c, .int .i64 b2, .int .i64 d2, .slice A2 ws2.length c2] 43) = w13 at *
            rw [hb6] at K6 ⊢
            clear hb6
            refine (clusters2_calls b d A c ws b2 d2 A2 c2 ws2 b6 w13 (by rw [HLL.out]; exact K6.out) (by rw [HLL.out]; exact hcap) (Kd.C_below HCC.out HB.out) hcap2 (Kd.C_below HCQ.out HB.out) HZ.out HZ2.out (by rw [HNC.out, HN2.out]; omega) 2 (Nat.le_refl _)).mono ?_
            rintro e w14 ⟨v14, rfl, hv, hb⟩
            obtain ⟨Ad, cd, rfl⟩ := Kd.R_slice hv
            rw [Wv.asc_len, List.length_append, HNC.out, HN2.out]
            clear hv
            obtain ⟨M, hM⟩ : ∃ M, NC + N2 = M := ⟨_, rfl⟩
            have HM := Aside0.mk hM
            have hq1 : ((M : Int) == (NC : Int) + (N2 : Int)) = true := by simp; omega
            have hq2 : (M : Int) = (NC : Int) + (N2 : Int) := by omega
            rw [hM]
            clear hM
            clear K6
            replace K3 := Aside0.mk (blk_below K3.out hb)
            replace K4 := Aside0.mk (blk_below K4.out hb)
            replace HCA := Aside0.mk (Kd.C_below HCA.out hb)
            replace HB := Aside0.mk (HB.out.trans (hb.mono HB.out.size))
            clear hb
            have hq2h := Aside0.mk hq2
            clear hq2
            have K4c0 := (blk_cell K4.out 0).trans (show _ = some (.int .i64 b2) from rfl)
            have K4c1 := (blk_cell K4.out 1).trans (show _ = some (.int .i64 d2) from rfl)
            have K4c2 := (blk_cell K4.out 2).trans (show _ = some (.slice A2 ws2.length c2) from rfl)
            go_wp2_with fail
            have hbx : Below w14.heap.size w14 (w14.alloc (Obj.cells #[.int .i64 b2, .int .i64 d2, .slice A2 ws2.length c2] 43)) := (Below.refl _ w14).alloc (Nat.le_refl _) _
            have K7 := Aside0.mk (grown_new (w := w14) #[.int .i64 b2, .int .i64 d2, .slice A2 ws2.length c2] 43)
            obtain ⟨b7, hb7⟩ : ∃ b, w14.heap.size = b := ⟨_, rfl⟩
            clear K4c0 K4c1 K4c2
            replace K3 := Aside0.mk (blk_below K3.out hbx)
            replace K4 := Aside0.mk (blk_below K4.out hbx)
            replace HCA := Aside0.mk (Kd.C_below HCA.out hbx)
            replace HB := Aside0.mk (HB.out.trans (hbx.mono HB.out.size))
            clear hbx
            generalize w14.alloc (Obj.cells #[.int .i64 b2, .int .i64 d2, .slice A2 ws2.length c2] 43) = w15 at *
            rw [hb7] at K7 ⊢
            clear hb7
            refine (clusters1_calls b2 d2 A2 c2 ws2 b7 w15 K7.out hcap2 (Kd.C_below HCQ.out HB.out) HZ2.out 1 (Nat.le_refl _)).mono ?_
            rintro e w16 ⟨v16, rfl, hv, hb⟩
            obtain ⟨Ae, ce, rfl⟩ := Kd.R_slice hv
            rw [Wv.asc_len, HN2.out]
            clear hv
            clear K7
            replace K3 := Aside0.mk (blk_below K3.out hb)
            replace K4 := Aside0.mk (blk_below K4.out hb)
            replace HCA := Aside0.mk (Kd.C_below HCA.out hb)
            replace HB := Aside0.mk (HB.out.trans (hb.mono HB.out.size))
            clear hb
            have K3c0 := (blk_cell K3.out 0).trans (show _ = some (.int .i64 b) from rfl)
            have K3c1 := (blk_cell K3.out 1).trans (show _ = some (.int .i64 d) from rfl)
            have K3c2 := (blk_cell K3.out 2).trans (show _ = some (.slice A L c) from rfl)
            go_wp2_with fail
            clear hq1
            have hby := bytes_calls b d A c ws w16 (Kd.C_below HCC.out HB.out) (by rw [HLL.out]; exact hcap) (by rw [HS1.out]; omega)
            rw [HLL.out] at hby
            refine hby.mono ?_
            clear hby
            rintro e w17 ⟨Ab2, cb2, rfl, hcb, hb⟩
            have hcv := run_str (P := Try.prog) (src := 45) (dst := 9) (e := 5) Try.underlying45 Try.underlying5 Try.underlying9 (c := cb2) hcb
            rw [HWAS.out] at hcv
            clear hcb
            clear K3c0 K3c1 K3c2
            replace K3 := Aside0.mk (blk_below K3.out hb)
            replace K4 := Aside0.mk (blk_below K4.out hb)
            replace HB := Aside0.mk (HB.out.trans (hb.mono HB.out.size))
            clear hb
            go_wp2_with fail
            go_ret
            exact ⟨rfl, HB.out⟩
end Go.Proofs.Ytkeadpichlgagaa.Pla
