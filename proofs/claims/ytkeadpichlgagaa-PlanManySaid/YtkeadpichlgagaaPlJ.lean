/- PlanMany, walked. -/
import Derived.Test.YtkeadpichlgagaaPm3
namespace Go.Proofs.Ytkeadpichlgagaa.Pla
open Go.RowKit Go.Lib Go.Sort Go.Shelf Go.Proofs.YtkeadpichlgagaaW.PrintWords Go.Proofs.YtkeadpichlgagaaW.PrintLast Go.Proofs.YtkeadpichlgagaaW.PrintMore
open Go.Proofs.Ytkeadpichlgagaa.Pl Go.Proofs.Ytkeadpichlgagaa.PlS Go.Proofs.Ytkeadpichlgagaa.Mp
set_option linter.unusedVariables false
set_option linter.unusedSimpArgs false
set_option linter.unnecessarySimpa false
theorem rep_succ (n : Nat) (z : S51) : List.replicate n z ++ [z] = List.replicate (n + 1) z := (List.replicate_succ').symm
theorem emod_nat {j M q : Nat} (h : j % M = q) : ((j : Int) % (M : Int)) = (q : Int) := by subst h; simp
set_option maxHeartbeats 8000000 in
set_option maxRecDepth 100000 in
theorem many_law (a b bud : Int) (w : World) : Calls Try.prog 8 #[.int .i64 a, .int .i64 b, .int .i64 bud] w fun e w' => e = .returned (.bool true) ∧ Below w.heap.size w w' := by
  have hu51 := Try.underlying51
  have ha := Int.tmod_lt_of_pos a (show (0:Int) < 70 by decide)
  have ha' : -70 < a.tmod 70 := by have := Int.tmod_lt_of_pos (-a) (show (0:Int) < 70 by decide); rw [Int.neg_tmod] at this; omega
  have hb := Int.tmod_lt_of_pos b (show (0:Int) < 5 by decide)
  have hb' : -5 < b.tmod 5 := by have := Int.tmod_lt_of_pos (-b) (show (0:Int) < 5 by decide); rw [Int.neg_tmod] at this; omega
  have HB : Aside0 (Below w.heap.size w w) := ⟨Below.refl _ _⟩
  go_enter Try.func8, Try.ntmps8
  go_wp2_with fail
  refine (awake_calls w).mono ?_
  rintro e w1 ⟨rfl, hb⟩
  replace HB := Aside0.mk (HB.out.trans (hb.mono HB.out.size))
  clear hb
  go_upto_region 6 with fail
  have hbx : Below w1.heap.size w1 (w1.alloc (Obj.cells #[.int .i64 bud, .int .i64 0, .slice none 0 0] 43)) := (Below.refl _ w1).alloc (Nat.le_refl _) _
  have K1 := Aside0.mk (grown_new (w := w1) #[.int .i64 bud, .int .i64 0, .slice none 0 0] 43)
  obtain ⟨bp, hbp⟩ : ∃ b, w1.heap.size = b := ⟨_, rfl⟩
  have HBPL : Aside0 (w.heap.size ≤ bp) := ⟨by rw [← hbp]; exact HB.out.size⟩
  replace HB := Aside0.mk (HB.out.trans (hbx.mono HB.out.size))
  clear hbx
  generalize w1.alloc (Obj.cells #[.int .i64 bud, .int .i64 0, .slice none 0 0] 43) = w2 at *
  rw [hbp] at K1 ⊢
  clear hbp
  obtain ⟨M, hM⟩ : ∃ M : Nat, 1 + a.tmod 70 % 70 = (M : Int) := ⟨(1 + a.tmod 70 % 70).toNat, by omega⟩
  obtain ⟨n, hn⟩ : ∃ n : Nat, b.tmod 5 % 5 - 2 + 65535 = (n : Int) := ⟨(b.tmod 5 % 5 - 2 + 65535).toNat, by omega⟩
  have hM1 : 0 < M := by omega
  have hM2 : M ≤ 70 := by omega
  have hn1 : 65533 ≤ n := by omega
  have hn2 : n ≤ 65537 := by omega
  rw [hM, hn]
  generalize (a.tmod 70 + 70) % 70 = x1
  generalize (b.tmod 5 + 5) % 5 = x2
  generalize b.tmod 5 % 5 - 2 = x3
  generalize a.tmod 70 + 70 = x4
  generalize b.tmod 5 + 5 = x5
  generalize a.tmod 70 = x6
  generalize b.tmod 5 = x7
  clear hM hn ha ha' hb hb'
  obtain ⟨B, hB⟩ : ∃ B, B = w2.heap.size := ⟨_, rfl⟩
  have HBP : Aside0 (bp < B) := ⟨by rw [hB]; exact blk_lt K1.out⟩
  have HWB : Aside0 (w.heap.size ≤ bp) := HBPL
  have HBS : Aside0 (B ≤ w2.heap.size) := ⟨by omega⟩
  clear hB
  go_loopg [10] M (fun kq v10 wr => ∃ (i : Nat) (v : Value) (f : Nat → Nat), v10 = .int .i64 i ∧ i + kq = M ∧ Aside0 (Wr wr B v (List.replicate i z51) f) ∧ Aside0 (wr.heap[bp]? = some (.cells #[.int .i64 bud, .int .i64 0, v] 43 (0, 0))) ∧ Aside0 (B ≤ wr.heap.size) ∧ Aside0 (Below w.heap.size w wr))
  case atStart => exact ⟨0, _, fun _ => 0, rfl, by omega, ⟨Wr.nil _ _ _⟩, K1, HBS, HB⟩
  case round =>
    clear K1 HB HBS
    obtain ⟨i, v, f, rfl, hi, HWR, K1, HBS, HB⟩ := hrel
    by_cases hlt : i < M
    ·
      have hlt' : (i : Int) < (M : Int) := by omega
      obtain ⟨cells, ho, he⟩ := HWR.out
      have HO := Aside0.mk ho
      have HE := Aside0.mk he
      rw [List.length_replicate] at HO
      clear ho he
      have K1c0 := (blk_cell K1.out 0).trans (show _ = some (.int .i64 bud) from rfl)
      have K1c1 := (blk_cell K1.out 1).trans (show _ = some (.int .i64 0) from rfl)
      have K1c2 := (blk_cell K1.out 2).trans (show _ = some (v) from rfl)
      go_wp2_with ((with_reducible refine gate_builtin (b := .append) (xs := #[.tmp 35, .tmp 37]) rfl ?_); at_builtin; refine print_append_cells (w0 := wr) B rfl (.tmp 35) (.tmp 37) 41 51 (.agg #[.slice none 0 0, .slice none 0 0, .int .i64 0]) 3 56 rfl Try.underlying41 info51 rfl (by decide) (by decide) v i cells [.slice none 0 0, .slice none 0 0, .int .i64 0] rfl rfl rfl ?aI ?aO ?aB ?aS ?aL ?_; (case aI => exact fun u hu => by simp at hu; rcases hu with rfl | rfl <;> rfl); (case aO => exact HO.out); (case aB => exact Below.refl _ _); (case aS => exact HBS.out); (case aL => omega); intro v6 w6 ho6 hb6 hg6 hat6; obtain ⟨A6, c6, rfl⟩ := own_slice ho6; have HO6 := Aside0.mk ho6; have HG6 := Aside0.mk hg6; have K16 := Aside0.mk (blk_grown K1.out hg6 (fun e => by have h := own_base HO.out _ e.symm; have := HBP.out; omega)); have K16c2 := (blk_cell K16.out 2).trans (show _ = some v from rfl); have K16f2 := blk_frozen K16.out 2; clear ho6 hb6 hg6 hat6)
      clear K1c0 K1c1 K1c2
      clear K16c2 K16f2
      have HWS := Aside0.mk (Wr.snoc (f' := f) (va := .slice none 0 0) (vc := .slice none 0 0) z51 (by rw [List.length_replicate]; exact HO.out) HE.out (by rw [List.length_replicate]; exact HO6.out) HG6.out (fun k _ _ => rfl) (Kd.R_nil _ _ _ _ _) (fun k hk => by simp [Value.ownBlock] at hk) (Kd.R_nil _ _ _ _ _) (fun k hk => by simp [Value.ownBlock] at hk))
      rw [rep_succ] at HWS
      have HB6 : Aside0 (Below w.heap.size w (w6.setCell ⟨bp, 2, none⟩ (.slice A6 (i + 1) c6))) := ⟨(pw_below_grown HB.out _ HB.out.size HG6.out (fun k hk => by have := own_base HO.out k hk; have := HBP.out; have := HWB.out; omega)).setCell (p := ⟨bp, 2, none⟩) HWB.out _⟩
      have HW7 : Aside0 (Wr (w6.setCell ⟨bp, 2, none⟩ (.slice A6 (i + 1) c6)) B (.slice A6 (i + 1) c6) (List.replicate (i + 1) z51) f) := ⟨HWS.out.move (fun k hk _ => Below.heap_setCell w6 ⟨bp, 2, none⟩ _ k (by have := HBP.out; show k ≠ bp; omega))⟩
      have K7 : Aside0 ((w6.setCell ⟨bp, 2, none⟩ (.slice A6 (i + 1) c6)).heap[bp]? = some (.cells #[.int .i64 bud, .int .i64 0, .slice A6 (i + 1) c6] 43 (0, 0))) := ⟨blk_put (cs := #[.int .i64 bud, .int .i64 0, v]) K16.out 2 _ rfl⟩
      have HB7 : Aside0 (B ≤ (w6.setCell ⟨bp, 2, none⟩ (.slice A6 (i + 1) c6)).heap.size) := ⟨by have := HG6.out.size; have := HBS.out; simp [World.setCell]; omega⟩
      go_roundg (M - (i + 1))
      case measure => omega
      case rel => exact ⟨i + 1, _, f, by go_num, by omega, HW7, K7, HB7, HB6⟩
    ·
      obtain rfl : i = M := by omega
      have hge : decide (i < i) = false := decide_eq_false hlt
      clear hi hlt
      obtain ⟨A, c, rfl⟩ := HWR.out.slice
      rw [List.length_replicate] at K1 HWR
      go_wp2_with fail
      clear hge
      go_loopg [11, 12] n (fun kq v11 v12 wr => ∃ (j : Nat) (f : Nat → Nat), v11 = .int .i64 j ∧ j + kq = n ∧ Aside0 (Wr wr B (.slice A i c) (dist i j) f) ∧ Aside0 (wr.heap[bp]? = some (.cells #[.int .i64 bud, .int .i64 0, .slice A i c] 43 (0, 0))) ∧ Aside0 (B ≤ wr.heap.size) ∧ Aside0 (Below w.heap.size w wr))
      case atStart => exact ⟨0, f, rfl, by omega, HWR, K1, HBS, HB⟩
      case round =>
        clear HWR K1 HBS HB f
        obtain ⟨j, f, rfl, hj, HWR, K1, HBS, HB⟩ := hrel
        by_cases hlt : j < n
        ·
          have hlt' : (j : Int) < (n : Int) := by omega
          have hqk : j % i < (dist i j).length := by rw [dist_len]; exact Nat.mod_lt _ hM1
          have HDS : Aside0 (dist i (j + 1) = (dist i j).set (j % i) ⟨(dist i j)[j % i].f0, (dist i j)[j % i].f1 ++ [(j : Int)], (dist i j)[j % i].f2⟩) := ⟨by rw [dist]; simp only [getD_at hqk]⟩
          obtain ⟨g, cap, cells, va, vc, ev, hBg, hgl, ho, he, e0, e1, ha, hc, hbk, y0, y1⟩ := HWR.out.at hqk
          have HLL : Aside0 ((dist i j)[j % i].f1.length ≤ 70000) := ⟨by
            have h1 := clus_self hqk
            have h2 := congrArg List.length h1
            rw [(dist_clus hM1 j).length_eq, Wv.rng_length, List.length_append, List.length_append] at h2
            omega⟩
          have HQK : Aside0 ((dist i j)[j % i]? = some (dist i j)[j % i]) := ⟨List.getElem?_eq_getElem hqk⟩
          rw [dist_len] at hqk
          have HQM := Aside0.mk (emod_nat (j := j) (M := i) rfl)
          have hqk' : ((j % i : Nat) : Int) < (i : Int) := by omega
          generalize (dist i j)[j % i] = x at *
          generalize j % i = q at *
          have HM : Aside0 (0 < (i : Int)) := ⟨by omega⟩
          obtain ⟨ad, had⟩ : ∃ ad : Addr, ad = ⟨g, 0, none⟩ := ⟨_, rfl⟩
          have HAD := Aside0.mk had
          rw [dist_len] at ev
          simp only [Value.slice.injEq, true_and] at ev
          obtain ⟨rfl, rfl⟩ := ev
          rw [← had] at ho K1 HWR
          have HO : Aside0 (wr.ownsRow B 51 3 (.slice (some ⟨g, 0, none⟩) i c) (dist i j).length cells) := ⟨by rw [← had]; exact ho⟩
          have HE := Aside0.mk he
          have H1 := Aside0.mk e1
          have HVC := Aside0.mk hc
          have HY : Aside0 (wr.cell? ⟨(ad.add (q * 3)).block, (ad.add (q * 3)).off + 1, none⟩ = some vc) := ⟨by
            rw [had, add_plain]
            show wr.cell? ⟨g, q * 3 + 1, none⟩ = _
            rw [Nat.mul_comm]; exact y1⟩
          have HGT := Aside0.mk hbk
          have HBG := Aside0.mk hBg
          clear ho he e0 e1 ha hc hbk y0 y1 had hBg hgl va
          go_upto_region 13 with fail
          rw [HQM.out]
          have HD : Aside0 (Below wr.heap.size wr wr.drew) := ⟨(Below.refl _ _).drew⟩
          have HC : Aside0 (∀ W, Below wr.heap.size wr W → W.cell? ⟨bp, 2, none⟩ = some (.slice (some ad) i c) ∧ W.cell? ⟨(ad.add (q * 3)).block, (ad.add (q * 3)).off + 1, none⟩ = some vc) := ⟨fun W hW => ⟨(blk_cell (blk_below K1.out hW) 2).trans rfl, pw_cell_below hW HY.out⟩⟩
          refine start_ (n := 15) (S := fun w' => w'.cell? ⟨bp, 2, none⟩ = some (.slice (some ad) i c) ∧ w'.cell? ⟨(ad.add (q * 3)).block, (ad.add (q * 3)).off + 1, none⟩ = some vc) (ds := [14]) #[false, false, false, false, false, false, false, false, false, false, false, false, false, false, false] (by kernel_rfl) rfl rfl (HC.out _ HD.out) (fun hHeld => ?_)
          refine pure_ (i := 0) (N := some 48) (v := ?_) (a' := ?_) #[true, false, false, false, false, false, false, false, false, false, false, false, false, false, false] rfl rfl (by kernel_rfl) (fun _ _ _ h => h) (Or.inl ⟨by rfl, ?_⟩) ?_ ?_
          rotate_left
          · intro w'
            go_simp
            with_reducible rfl
          rotate_left
          · simp only [Act.put, List.setIfInBounds_toArray, List.set_cons_zero, List.set_cons_succ, i64_w, i32_w]
            rfl
          refine pure_ (i := 2) (N := some 50) (v := ?_) (a' := ?_) #[true, false, true, false, false, false, false, false, false, false, false, false, false, false, false] rfl rfl (by kernel_rfl) (fun _ _ _ h => h) (Or.inl ⟨by rfl, ?_⟩) ?_ ?_
          rotate_left
          · intro w'
            go_simp
            with_reducible rfl
          rotate_left
          · simp only [Act.put, List.setIfInBounds_toArray, List.set_cons_zero, List.set_cons_succ, i64_w, i32_w]
            rfl
          refine pure_ (i := 3) (N := some 51) (v := ?_) (a' := ?_) #[true, false, true, true, false, false, false, false, false, false, false, false, false, false, false] rfl rfl (by kernel_rfl) (fun _ _ _ h => h) (Or.inl ⟨by rfl, ?_⟩) ?_ ?_
          rotate_left
          · intro w'
            go_simp
            with_reducible rfl
          rotate_left
          · simp only [Act.put, List.setIfInBounds_toArray, List.set_cons_zero, List.set_cons_succ, i64_w, i32_w]
            rfl
          refine pure_ (i := 5) (N := some 53) (v := ?_) (a' := ?_) #[true, false, true, true, false, true, false, false, false, false, false, false, false, false, false] rfl rfl (by kernel_rfl) (fun _ _ _ h => h) (Or.inl ⟨by rfl, ?_⟩) ?_ ?_
          rotate_left
          · intro w'
            go_simp
            with_reducible rfl
          rotate_left
          · simp only [Act.put, List.setIfInBounds_toArray, List.set_cons_zero, List.set_cons_succ, i64_w, i32_w]
            rfl
          refine pure_ (i := 9) (N := some 57) (v := ?_) (a' := ?_) #[true, false, true, true, false, true, false, false, false, true, false, false, false, false, false] rfl rfl (by kernel_rfl) (fun _ _ _ h => h) (Or.inl ⟨by rfl, ?_⟩) ?_ ?_
          rotate_left
          · intro w'
            go_simp
            with_reducible rfl
          rotate_left
          · simp only [Act.put, List.setIfInBounds_toArray, List.set_cons_zero, List.set_cons_succ, i64_w, i32_w]
            rfl
          refine take_ (i := 1) (N := some 49) (v := ?_) (a' := ?_) #[true, true, true, true, false, true, false, false, false, true, false, false, false, false, false] rfl rfl (by kernel_rfl) (fun _ _ _ h => h) (Or.inl ⟨by rfl, ?_⟩) hHeld ?_ ?_
          rotate_left
          · rintro w' ⟨s0, s1⟩
            go_simp
            with_reducible rfl
          rotate_left
          · simp only [Act.put, List.setIfInBounds_toArray, List.set_cons_zero, List.set_cons_succ, i64_w, i32_w]
            rfl
          refine take_ (i := 4) (N := some 52) (v := ?_) (a' := ?_) #[true, true, true, true, true, true, false, false, false, true, false, false, false, false, false] rfl rfl (by kernel_rfl) (fun _ _ _ h => h) (Or.inl ⟨by rfl, ?_⟩) hHeld ?_ ?_
          rotate_left
          · rintro w' ⟨s0, s1⟩
            go_simp
            with_reducible rfl
          rotate_left
          · simp only [Act.put, List.setIfInBounds_toArray, List.set_cons_zero, List.set_cons_succ, i64_w, i32_w]
            rfl
          refine pure_ (i := 6) (N := some 54) (v := ?_) (a' := ?_) #[true, true, true, true, true, true, true, false, false, true, false, false, false, false, false] rfl rfl (by kernel_rfl) (fun _ _ _ h => h) (Or.inl ⟨by rfl, ?_⟩) ?_ ?_
          rotate_left
          · intro w'
            go_simp
            with_reducible rfl
          rotate_left
          · simp only [Act.put, List.setIfInBounds_toArray, List.set_cons_zero, List.set_cons_succ, i64_w, i32_w]
            rfl
          refine pure_ (i := 7) (N := some 55) (v := ?_) (a' := ?_) #[true, true, true, true, true, true, true, true, false, true, false, false, false, false, false] rfl rfl (by kernel_rfl) (fun _ _ _ h => h) (Or.inl ⟨by rfl, ?_⟩) ?_ ?_
          rotate_left
          · intro w'
            go_simp
            with_reducible rfl
          rotate_left
          · simp only [Act.put, List.setIfInBounds_toArray, List.set_cons_zero, List.set_cons_succ, i64_w, i32_w]
            rfl
          refine take_ (i := 8) (N := some 56) (v := ?_) (a' := ?_) #[true, true, true, true, true, true, true, true, true, true, false, false, false, false, false] rfl rfl (by kernel_rfl) (fun _ _ _ h => h) (Or.inl ⟨by rfl, ?_⟩) hHeld ?_ ?_
          rotate_left
          · rintro w' ⟨s0, s1⟩
            go_simp
            with_reducible rfl
          rotate_left
          · simp only [Act.put, List.setIfInBounds_toArray, List.set_cons_zero, List.set_cons_succ, i64_w, i32_w]
            rfl
          refine one_ (i := 10) (N := some 58) #[true, true, true, true, true, true, true, true, true, true, true, false, false, false, false] rfl rfl (by kernel_rfl) (by decide) (fun K hK => ?_)
          refine value_ (w1 := ?_) (v := ?_) (by rfl) rfl ?_ ?_
          rotate_left 2
          · go_simp
            constructor
            · rfl
            · rfl
          have hb : Below wr.drew.heap.size wr.drew (wr.drew.alloc (Obj.cells #[.int .i64 j] 3)) := (Below.refl _ wr.drew).alloc (Nat.le_refl _) _
          have HD2 := Aside0.mk (HD.out.trans (hb.mono HD.out.size))
          clear hb
          refine hK.out _ _ (HC.out _ HD2.out) (fun hHeld => ?_)
          clear hK K
          refine norm_ (a' := ?_) ?_ ?_
          rotate_left
          · show Act.put _ (some 58) _ = _
            simp only [Act.put, List.setIfInBounds_toArray, List.set_cons_zero, List.set_cons_succ, i64_w, i32_w]
            rfl
          refine one_ (i := 11) (N := some 59) #[true, true, true, true, true, true, true, true, true, true, true, true, false, false, false] rfl rfl (by kernel_rfl) (by decide) (fun K hK => ?_)
          refine Kd.R_append_step (Kd.int .i64) (w0 := wr.drew) B (by rfl) (.tmp 56) (.tmp 58) 25 3 (.int .i64 0) 8 rfl Try.underlying25 info3 rfl (by decide) (by decide) vc x.f1 (j : Int) [.int .i64 j] (fun _ => True) (fun _ => False) (by rfl) (by rfl) rfl (fun _ h => h.elim) (fun _ _ => trivial) (Kd.R_drew HVC.out) (Below.refl _ _) HBS.out (by have := HLL.out; omega) ?_
          intro v9 w9 hr9 hb9 hg9 hat9
          obtain ⟨A9, c9, rfl⟩ := Kd.R_slice hr9
          rw [List.length_append, List.length_singleton] at hr9 hat9
          have HR9 := Aside0.mk hr9
          have HG9 : Aside0 (wr.grownBy w9 vc.ownBlock) := ⟨World.grownBy.trans (grown_of_below (Below.refl _ wr).drew _) hg9⟩
          have HAT := Aside0.mk hat9
          have K19 := Aside0.mk (blk_grown K1.out HG9.out (fun e => by have h := Kd.R_base HVC.out _ e.symm; have := HBP.out; omega))
          have HGR : Aside0 (w9.heap[g]? = wr.heap[g]?) := ⟨HG9.out.block g (by obtain ⟨cur, hcur⟩ := HGT.out; exact blk_lt hcur) (fun e => inner_ne HO.out HVC.out _ e.symm rfl)⟩
          have HY9 : Aside0 (w9.cell? ⟨(ad.add (q * 3)).block, (ad.add (q * 3)).off + 1, none⟩ = some vc) := ⟨by
            rw [← HY.out]
            refine World.cell?_of_block (w := wr) (w' := w9) ?_
            rw [HAD.out, add_plain]
            exact HGR.out⟩
          clear hr9 hb9 hg9 hat9
          refine hK.out _ _ (⟨(blk_cell K19.out 2).trans rfl, HY9.out⟩) (fun hHeld => ?_)
          clear hK K
          refine norm_ (a' := ?_) ?_ ?_
          rotate_left
          · show Act.put _ (some 59) _ = _
            simp only [Act.put, List.setIfInBounds_toArray, List.set_cons_zero, List.set_cons_succ, i64_w, i32_w]
            rfl
          refine pure_ (i := 12) (N := some 60) (v := ?_) (a' := ?_) #[true, true, true, true, true, true, true, true, true, true, true, true, true, false, false] rfl rfl (by kernel_rfl) (fun _ _ _ h => h) (Or.inl ⟨by rfl, ?_⟩) ?_ ?_
          rotate_left
          · intro w'
            go_simp
            with_reducible rfl
          rotate_left
          · simp only [Act.put, List.setIfInBounds_toArray, List.set_cons_zero, List.set_cons_succ, i64_w, i32_w]
            rfl
          refine pure_ (i := 13) (N := some 61) (v := ?_) (a' := ?_) #[true, true, true, true, true, true, true, true, true, true, true, true, true, true, false] rfl rfl (by kernel_rfl) (fun _ _ _ h => h) (Or.inl ⟨by rfl, ?_⟩) ?_ ?_
          rotate_left
          · intro w'
            go_simp
            with_reducible rfl
          rotate_left
          · simp only [Act.put, List.setIfInBounds_toArray, List.set_cons_zero, List.set_cons_succ, i64_w, i32_w]
            rfl
          refine last_ (i := 14) (N := none) #[true, true, true, true, true, true, true, true, true, true, true, true, true, true, true] rfl rfl (by kernel_rfl) (by decide) (fun K hK => ?_)
          have HF9 : w9.frozen? ⟨(ad.add (q * 3)).block, (ad.add (q * 3)).off + 1, none⟩ = false := by
            obtain ⟨cur, hcur⟩ := HGT.out
            rw [HAD.out, add_plain]
            exact blk_frozen (HGR.out.trans hcur) _
          have hy9 := HY9.out
          refine skip_ (w1 := ?_) (by rfl) rfl ?_ ?_
          rotate_left
          · go_simp
            rfl
          clear hy9 HF9
          refine hK.out _ _ ?_
          clear hK K
          refine done_ (by kernel_rfl) ?_
          clear hHeld HC HD HD2
          obtain ⟨f', hput⟩ := Wr.put1 HO.out HE.out HQK.out H1.out HG9.out HR9.out HAT.out
          rw [← HDS.out] at hput
          have HW2 := Aside0.mk hput
          have HADR : Aside0 ((⟨(ad.add (q * 3)).block, (ad.add (q * 3)).off + 1, none⟩ : Addr) = ⟨g, 3 * q + 1, none⟩) := ⟨by rw [HAD.out, add_plain]; show (⟨g, q * 3 + 1, none⟩ : Addr) = _; rw [Nat.mul_comm]⟩
          rw [HADR.out]
          rw [← HAD.out] at HW2
          have HB9 : Aside0 (Below w.heap.size w (w9.setCell ⟨g, 3 * q + 1, none⟩ (.slice A9 (x.f1.length + 1) c9))) := ⟨(pw_below_grown HB.out _ HB.out.size HG9.out (fun k hk => by have := Kd.R_base HVC.out k hk; have := HBP.out; have := HWB.out; omega)).setCell (p := ⟨g, 3 * q + 1, none⟩) (by have := HBG.out; have := HBP.out; have := HWB.out; show w.heap.size ≤ g; omega) _⟩
          have K29 : Aside0 ((w9.setCell ⟨g, 3 * q + 1, none⟩ (.slice A9 (x.f1.length + 1) c9)).heap[bp]? = some (.cells #[.int .i64 bud, .int .i64 0, .slice (some ad) i c] 43 (0, 0))) := ⟨blk_far K19.out (p := ⟨g, 3 * q + 1, none⟩) (by have := HBG.out; have := HBP.out; show bp ≠ g; omega) _⟩
          have HBS9 : Aside0 (B ≤ (w9.setCell ⟨g, 3 * q + 1, none⟩ (.slice A9 (x.f1.length + 1) c9)).heap.size) := ⟨by have := HG9.out.size; have := HBS.out; simp [World.setCell]; omega⟩
          clear hput K1 HWR HB HBS HO HE HGR HY HY9 HVC K19 HG9 HR9 HAT
          generalize w9.setCell ⟨g, 3 * q + 1, none⟩ (.slice A9 (x.f1.length + 1) c9) = w10 at *
          go_wp2_with fail
          rw [HAD.out] at HW2 K29
          go_roundg (n - (j + 1))
          case measure => omega
          case rel => exact ⟨j + 1, f', by go_num, by omega, HW2, K29, HBS9, HB9⟩
        ·
          obtain rfl : j = n := by omega
          have hge : decide (j < j) = false := decide_eq_false hlt
          have HRD := Aside0.mk HWR.out.reads
          rw [dist_len] at HRD
          have HCK := Aside0.mk (check_calls bud 0 A c (dist i j) wr (by rw [dist_len]; exact HRD.out.2.2) (by rw [dist_len]; exact HRD.out.2.1) (dist_psz hM1 hM2 (by omega)))
          rw [many_check hM1 hM2 hn1 hn2, dist_len] at HCK
          clear hj hlt HWR
          have K1c0 := (blk_cell K1.out 0).trans (show _ = some (.int .i64 bud) from rfl)
          have K1c1 := (blk_cell K1.out 1).trans (show _ = some (.int .i64 0) from rfl)
          have K1c2 := (blk_cell K1.out 2).trans (show _ = some (.slice A i c) from rfl)
          go_wp2_with fail
          refine HCK.out.mono ?_
          rintro e w11 ⟨rfl, hb⟩
          clear K1
          clear HCK
          clear K1c0 K1c1 K1c2
          replace HB := Aside0.mk (HB.out.trans (hb.mono HB.out.size))
          clear hb
          by_cases h1 : bud < 1
          ·
            rw [if_pos (.inl h1)]
            have d1 : decide (bud < 1) = true := decide_eq_true h1
            go_wp2_with fail
            go_ret
            exact ⟨rfl, HB.out⟩
          ·
            have d1 : decide (bud < 1) = false := decide_eq_false h1
            by_cases h2 : 65535 < bud
            ·
              rw [if_pos (.inr (.inl h2))]
              have d2 : decide (65535 < bud) = true := decide_eq_true h2
              clear h1
              go_wp2_with fail
              go_ret
              exact ⟨rfl, HB.out⟩
            ·
              have d2 : decide (65535 < bud) = false := decide_eq_false h2
              by_cases h3 : 64 < i
              ·
                rw [if_pos (.inr (.inr h3))]
                have d3 : decide ((64 : Int) < (i : Int)) = true := decide_eq_true (by omega)
                clear h1 h2
                go_wp2_with fail
                go_ret
                exact ⟨rfl, HB.out⟩
              ·
                rw [if_neg (by omega)]
                have d3 : decide ((64 : Int) < (i : Int)) = false := decide_eq_false (by omega)
                clear h1 h2
                by_cases h4 : 65535 < j
                ·
                  rw [if_pos h4]
                  have d4 : decide ((65535 : Int) < (j : Int)) = true := decide_eq_true (by omega)
                  go_wp2_with fail
                  go_ret
                  exact ⟨rfl, HB.out⟩
                ·
                  rw [if_neg h4]
                  have d4 : decide ((65535 : Int) < (j : Int)) = false := decide_eq_false (by omega)
                  go_wp2_with fail
                  go_ret
                  exact ⟨rfl, HB.out⟩
end Go.Proofs.Ytkeadpichlgagaa.Pla
