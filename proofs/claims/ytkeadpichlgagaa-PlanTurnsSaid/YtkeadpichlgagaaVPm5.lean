/- Kept of the text Pm5: what is reached (wip/tools/prune.py). -/
import Derived.Test.YtkeadpichlgagaaVPm3
import Derived.Test.YtkeadpichlgagaaVPm4
namespace Go.Proofs.Ytkeadpichlgagaa.Pla
open Go.RowKit Go.Lib Go.Sort Go.Shelf Go.Proofs.YtkeadpichlgagaaW.PrintWords Go.Proofs.YtkeadpichlgagaaW.PrintLast Go.Proofs.YtkeadpichlgagaaW.PrintMore
open Go.Proofs.Ytkeadpichlgagaa.Pl Go.Proofs.Ytkeadpichlgagaa.PlS Go.Proofs.Ytkeadpichlgagaa.Mp
set_option linter.unusedVariables false
set_option linter.unusedSimpArgs false
set_option linter.unnecessarySimpa false
def Qs (w : World) (gq B : Nat) (b d : Int) (ws : List S51) : Prop := ∃ v f, w.heap[gq]? = some (.cells #[.int .i64 b, .int .i64 d, v] 43 (0, 0)) ∧ Wr w B v ws f ∧ gq < B ∧ B ≤ w.heap.size
def Chg (w0 : World) (g : Nat) (caps : Array Value) (b d : Int) (ws : List S51) (b' : Int) (ws' : List S51) : Prop := ∀ gq B w, Below w0.heap.size w0 w → w0.heap.size ≤ gq → Qs w gq B b d ws →
  Calls Try.prog g (#[.pointer (some ⟨gq, 0, none⟩)] ++ caps) w fun e w' => e = .returned (.tuple #[]) ∧ Qs w' gq B b' d ws' ∧ Below gq w w'
def PhiT (x : S51) (s0 : Nat) (i : Nat) (v : Value) (W : World) : Prop := match i with
  | 2 => Rg.Empty 3 s0 v W
  | 5 => (Kd.int .i64).R 3 W s0 (fun _ => True) v x.f0
  | 6 => Rg.Empty 3 s0 v W
  | _ => False
theorem PhiT.st (x : S51) (s0 : Nat) : ∀ i v w1 w2, PhiT x s0 i v w1 → Below w1.heap.size w1 w2 → PhiT x s0 i v w2 := by
  intro i v w1 w2 h hb
  unfold PhiT at h
  split at h
  · exact Rg.Empty.below h hb
  · exact Kd.R_below h hb
  · exact Rg.Empty.below h hb
  · exact h.elim
theorem empty_lt {e base : Nat} {v : Value} {W : World} (h : Rg.Empty e base v W) : ∀ b, v.ownBlock = some b → b < W.heap.size := by
  obtain ⟨g, cur, rfl, h2, h3, h4⟩ := h
  intro b hb
  have : g = b := by simpa [Value.ownBlock] using hb
  subst this
  exact blk_lt h3
theorem PhiT.lb (x : S51) (s0 : Nat) : ∀ i v w1, PhiT x s0 i v w1 → ∀ b, v.ownBlock = some b → b < w1.heap.size := by
  intro i v w1 h
  unfold PhiT at h
  split at h
  · exact empty_lt h
  · exact Kd.R_lt h
  · exact empty_lt h
  · exact h.elim
def clsT (i : Nat) : Nat := if i = 2 ∨ i = 5 then 0 else 1
set_option maxHeartbeats 8000000 in
set_option maxRecDepth 100000 in
theorem turn_calls1 (b d : Int) (A : Option Addr) (c : Nat) (ws : List S51) (b' : Int) (ws' : List S51) (g bp : Nat) (x1 : Value) (w : World) (hp : w.heap[bp]? = some (.cells #[.int .i64 b, .int .i64 d, .slice A ws.length c] 43 (0, 0))) (hC : k51.C w A ws.length ws) (hcap : ws.length ≤ c)
    (hz : Psz ws) (hz' : Psz ws') (hl' : ws'.length ≤ 10000) (hcf : ∀ (args : Array Value) (w : World), (callFunc g args).run Try.prog w = .ok (.enter g args) w) (hchg : Chg w g #[x1] b d ws b' ws') :
    Calls Try.prog 38 #[.func (.func g) #[] #[x1], .pointer (some ⟨bp, 0, none⟩)] w fun e w' => e = .returned (.int .i64 (checkF b' d ws')) ∧ Below w.heap.size w w' := by
  have hu51 := Try.underlying51
  have hu43 := Try.underlying43
  have hu25 := Try.underlying25
  have HP := Aside0.mk hp
  have HCC := Aside0.mk hC
  have HZ := Aside0.mk hz
  have HZ2 := Aside0.mk hz'
  have HCH := Aside0.mk hchg
  have hmax := hC.2.1
  have HB : Aside0 (Below w.heap.size w w) := ⟨Below.refl _ _⟩
  clear hp hC hz hz' hchg
  have Pc0 := (blk_cell HP.out 0).trans (show _ = some (.int .i64 b) from rfl)
  have Pc1 := (blk_cell HP.out 1).trans (show _ = some (.int .i64 d) from rfl)
  go_enter Try.func38, Try.ntmps38
  go_upto_region 3 with fail
  clear Pc0 Pc1
  have hbx : Below w.heap.size w (w.alloc (Obj.cells #[.int .i64 b, .int .i64 d, .slice none 0 0] 43)) := (Below.refl _ w).alloc (Nat.le_refl _) _
  have K4 := Aside0.mk (grown_new (w := w) #[.int .i64 b, .int .i64 d, .slice none 0 0] 43)
  obtain ⟨gq, hgq⟩ : ∃ b, w.heap.size = b := ⟨_, rfl⟩
  have HGQ : Aside0 (w.heap.size ≤ gq) := ⟨by omega⟩
  replace HB := Aside0.mk (HB.out.trans (hbx.mono HB.out.size))
  clear hbx
  generalize w.alloc (Obj.cells #[.int .i64 b, .int .i64 d, .slice none 0 0] 43) = w1 at *
  rw [hgq] at K4 ⊢
  clear hgq
  obtain ⟨B, hB⟩ : ∃ B, B = w1.heap.size := ⟨_, rfl⟩
  have HGB : Aside0 (gq < B) := ⟨by rw [hB]; exact blk_lt K4.out⟩
  have HBS : Aside0 (B ≤ w1.heap.size) := ⟨by omega⟩
  clear hB
  go_loopg [5] ws.length (fun kq v5 wr => ∃ (i : Nat) (v : Value) (f : Nat → Nat), v5 = .int .i64 i ∧ i + kq = ws.length ∧ Aside0 (Wr wr B v (ws.take i) f) ∧ Aside0 (wr.heap[gq]? = some (.cells #[.int .i64 b, .int .i64 d, v] 43 (0, 0))) ∧ Aside0 (B ≤ wr.heap.size) ∧ Aside0 (Below w.heap.size w wr))
  case atStart => exact ⟨0, _, fun _ => 0, rfl, by omega, ⟨Wr.nil _ _ _⟩, K4, HBS, HB⟩
  case round =>
    clear K4 HB HBS
    obtain ⟨i, v, f, rfl, hi, HWR, K4, HBS, HB⟩ := hrel
    have HPP := Aside0.mk (blk_below HP.out HB.out)
    by_cases hlt : i < ws.length
    ·
      have hlt' : (i : Int) < (ws.length : Int) := by omega
      obtain ⟨ad, A0, c0, A1, c1, ea, y0, y1, y2, l0, g0, l1, g1⟩ := at_T51 (Kd.C_below HCC.out HB.out) i (by omega) hlt'
      subst ea
      rw [at51 ws hlt] at y0 y1 y2 l0 g0 l1 g1
      simp only [Int.toNat_natCast] at y0 y1 y2
      have HTS : Aside0 (ws.take (i + 1) = ws.take i ++ [ws[i]]) := ⟨List.take_succ_eq_append_getElem hlt⟩
      have hri := HZ.out.rows _ (List.getElem_mem hlt)
      have hrj := HZ.out.rows1 _ (List.getElem_mem hlt)
      have hwl := HZ.out.n
      have HG0 := Aside0.mk g0
      have HG1 := Aside0.mk g1
      clear g0 g1
      generalize ws[i] = x at y0 y1 y2 l0 l1 HG0 HG1 HTS hri hrj
      obtain ⟨cells, ho, he⟩ := HWR.out
      have hti : (ws.take i).length = i := by rw [List.length_take]; omega
      have HTI := Aside0.mk hti
      have HO : Aside0 (wr.ownsRow B 51 3 v i cells) := ⟨by rw [← hti]; exact ho⟩
      have HE := Aside0.mk he
      clear ho he hti
      have Pc2 := (blk_cell HPP.out 2).trans (show _ = some (.slice (some ad) ws.length c) from rfl)
      go_upto_region 6 with fail
      clear Pc2 y0 y1 y2
      have hbx : Below wr.heap.size wr (wr.alloc (Obj.cells #[.slice A0 x.f0.length c0, .slice A1 x.f1.length c1, .int .i64 x.f2] 51)) := (Below.refl _ wr).alloc (Nat.le_refl _) _
      have K6 := Aside0.mk (grown_new (w := wr) #[.slice A0 x.f0.length c0, .slice A1 x.f1.length c1, .int .i64 x.f2] 51)
      have HBR := Aside0.mk hbx
      replace K4 := Aside0.mk (blk_below K4.out hbx)
      have HB6 := Aside0.mk (HB.out.trans (hbx.mono HB.out.size))
      clear hbx
      obtain ⟨b6, hb6⟩ : ∃ b, wr.heap.size = b := ⟨_, rfl⟩
      generalize wr.alloc (Obj.cells #[.slice A0 x.f0.length c0, .slice A1 x.f1.length c1, .int .i64 x.f2] 51) = w6 at *
      rw [hb6] at K6 ⊢
      have HS6 : Aside0 (b6 ≤ w6.heap.size) := ⟨by rw [← hb6]; exact HBR.out.size⟩
      have HS0 : Aside0 (B ≤ b6) := ⟨by rw [← hb6]; exact HBS.out⟩
      have HWS := Aside0.mk hb6
      clear hb6
      have HD : Aside0 (Below w6.heap.size w6 w6.drew) := ⟨(Below.refl _ _).drew⟩
      have HC : Aside0 (∀ W, Below w6.heap.size w6 W → W.cell? ⟨gq, 2, none⟩ = some (v) ∧ W.cell? ⟨b6, 0, none⟩ = some (.slice A0 x.f0.length c0) ∧ W.cell? ⟨b6, 1, none⟩ = some (.slice A1 x.f1.length c1) ∧ W.cell? ⟨b6, 2, none⟩ = some (.int .i64 x.f2)) := ⟨fun W hW => ⟨(blk_cell (blk_below K4.out hW) 2).trans rfl, (blk_cell (blk_below K6.out hW) 0).trans rfl, (blk_cell (blk_below K6.out hW) 1).trans rfl, (blk_cell (blk_below K6.out hW) 2).trans rfl⟩⟩
      refine start_ (n := 17) (S := fun w' => w'.cell? ⟨gq, 2, none⟩ = some (v) ∧ w'.cell? ⟨b6, 0, none⟩ = some (.slice A0 x.f0.length c0) ∧ w'.cell? ⟨b6, 1, none⟩ = some (.slice A1 x.f1.length c1) ∧ w'.cell? ⟨b6, 2, none⟩ = some (.int .i64 x.f2)) (ds := [14, 16]) #[false, false, false, false, false, false, false, false, false, false, false, false, false, false, false, false, false] (by kernel_rfl) rfl rfl (HC.out _ HD.out) (fun hHeld => ?_)
      refine pure_ (i := 0) (N := some 24) (v := ?_) (a' := ?_) #[true, false, false, false, false, false, false, false, false, false, false, false, false, false, false, false, false] rfl rfl (by kernel_rfl) (fun _ _ _ h => h) (Or.inl ⟨by rfl, ?_⟩) ?_ ?_
      rotate_left
      · intro w'
        go_simp
        with_reducible rfl
      rotate_left
      · simp only [Act.put, List.setIfInBounds_toArray, List.set_cons_zero, List.set_cons_succ, i64_w, i32_w]
        rfl
      refine pure_ (i := 3) (N := some 27) (v := ?_) (a' := ?_) #[true, false, false, true, false, false, false, false, false, false, false, false, false, false, false, false, false] rfl rfl (by kernel_rfl) (fun _ _ _ h => h) (Or.inl ⟨by rfl, ?_⟩) ?_ ?_
      rotate_left
      · intro w'
        go_simp
        with_reducible rfl
      rotate_left
      · simp only [Act.put, List.setIfInBounds_toArray, List.set_cons_zero, List.set_cons_succ, i64_w, i32_w]
        rfl
      refine pure_ (i := 7) (N := some 31) (v := ?_) (a' := ?_) #[true, false, false, true, false, false, false, true, false, false, false, false, false, false, false, false, false] rfl rfl (by kernel_rfl) (fun _ _ _ h => h) (Or.inl ⟨by rfl, ?_⟩) ?_ ?_
      rotate_left
      · intro w'
        go_simp
        with_reducible rfl
      rotate_left
      · simp only [Act.put, List.setIfInBounds_toArray, List.set_cons_zero, List.set_cons_succ, i64_w, i32_w]
        rfl
      refine pure_ (i := 10) (N := some 34) (v := ?_) (a' := ?_) #[true, false, false, true, false, false, false, true, false, false, true, false, false, false, false, false, false] rfl rfl (by kernel_rfl) (fun _ _ _ h => h) (Or.inl ⟨by rfl, ?_⟩) ?_ ?_
      rotate_left
      · intro w'
        go_simp
        with_reducible rfl
      rotate_left
      · simp only [Act.put, List.setIfInBounds_toArray, List.set_cons_zero, List.set_cons_succ, i64_w, i32_w]
        rfl
      refine take_ (i := 1) (N := some 25) (v := ?_) (a' := ?_) #[true, true, false, true, false, false, false, true, false, false, true, false, false, false, false, false, false] rfl rfl (by kernel_rfl) (fun _ _ _ h => h) (Or.inl ⟨by rfl, ?_⟩) hHeld ?_ ?_
      rotate_left
      · rintro w' ⟨s0, s1, s2, s3⟩
        go_simp
        with_reducible rfl
      rotate_left
      · simp only [Act.put, List.setIfInBounds_toArray, List.set_cons_zero, List.set_cons_succ, i64_w, i32_w]
        rfl
      refine take_ (i := 4) (N := some 28) (v := ?_) (a' := ?_) #[true, true, false, true, true, false, false, true, false, false, true, false, false, false, false, false, false] rfl rfl (by kernel_rfl) (fun _ _ _ h => h) (Or.inl ⟨by rfl, ?_⟩) hHeld ?_ ?_
      rotate_left
      · rintro w' ⟨s0, s1, s2, s3⟩
        go_simp
        with_reducible rfl
      rotate_left
      · simp only [Act.put, List.setIfInBounds_toArray, List.set_cons_zero, List.set_cons_succ, i64_w, i32_w]
        rfl
      refine take_ (i := 8) (N := some 32) (v := ?_) (a' := ?_) #[true, true, false, true, true, false, false, true, true, false, true, false, false, false, false, false, false] rfl rfl (by kernel_rfl) (fun _ _ _ h => h) (Or.inl ⟨by rfl, ?_⟩) hHeld ?_ ?_
      rotate_left
      · rintro w' ⟨s0, s1, s2, s3⟩
        go_simp
        with_reducible rfl
      rotate_left
      · simp only [Act.put, List.setIfInBounds_toArray, List.set_cons_zero, List.set_cons_succ, i64_w, i32_w]
        rfl
      refine take_ (i := 11) (N := some 35) (v := ?_) (a' := ?_) #[true, true, false, true, true, false, false, true, true, false, true, true, false, false, false, false, false] rfl rfl (by kernel_rfl) (fun _ _ _ h => h) (Or.inl ⟨by rfl, ?_⟩) hHeld ?_ ?_
      rotate_left
      · rintro w' ⟨s0, s1, s2, s3⟩
        go_simp
        with_reducible rfl
      rotate_left
      · simp only [Act.put, List.setIfInBounds_toArray, List.set_cons_zero, List.set_cons_succ, i64_w, i32_w]
        rfl
      refine Rd.rg_ (R := [(2, 26, false, []), (5, 29, false, [(2, 26)]), (6, 30, false, [])]) 6 #[true, true, true, true, true, true, true, true, true, false, true, true, false, false, false, false, false] (clsT) (PhiT x b6) (PhiT.lb _ _) (by kernel_rfl) rfl (PhiT.st _ _) (fun w1 hW => HC.out _ (HD.out.trans (hW.mono HD.out.size))) ?_ (fun _ _ _ _ _ h => h) ?_
      · refine Rd.Steps.cons (i := 2) (by rfl) (fun vals W hW hΦ K hK => ?_) ?_
        · refine Rg.norm_step (a' := ?_) ?_ ?_
          rotate_left
          · simp only [Rg.actOf, putAll, List.map_cons, List.map_nil, Act.put, List.setIfInBounds_toArray, List.set_cons_zero, List.set_cons_succ]
            rfl
          refine value_ (w1 := ?_) (v := ?_) (by rfl) rfl ?_ ?_
          rotate_left 2
          · go_simp
            constructor
            · rfl
            · rfl
          exact hK.out _ _ ((Below.refl _ W).alloc (Nat.le_refl _) _) ⟨W.heap.size, _, rfl, Nat.le_trans HS6.out (HD.out.trans (hW.mono HD.out.size)).size, grown_new _ _, rfl⟩ (fun b hb => .inl (by simp [Value.ownBlock] at hb; omega))
        refine Rd.Steps.cons (i := 5) (by rfl) (fun vals W hW hΦ K hK => ?_) ?_
        · refine Rg.norm_step (a' := ?_) ?_ ?_
          rotate_left
          · simp only [Rg.actOf, putAll, List.map_cons, List.map_nil, Act.put, List.setIfInBounds_toArray, List.set_cons_zero, List.set_cons_succ]
            rfl
          have hE : Rg.Empty 3 b6 (vals 2) W := hΦ (2, 26) (by simp)
          refine Rd.fresh_append (α := Int) (enc := Value.int .i64) (h1 := fun _ => rfl) b6 (by rfl) (.tmp 26) (.tmp 28) 25 3 (.int .i64 0) 8 rfl rfl Try.underlying25 info3 rfl (by decide) (vals 2) x.f0 A0 x.f0.length c0 (by rfl) (by rfl) hE (Kd.C_below HG0.out (HBR.out.trans ((HD.out.trans (hW.mono HD.out.size)).mono HBR.out.size))) (Nat.le_trans HS6.out (HD.out.trans (hW.mono HD.out.size)).size) (by omega) ?_
          intro v1 w1 hr hb hfr
          exact hK.out _ _ hb hr (fun b hb => (hfr b hb).elim .inl (fun h => .inr ⟨(2, 26), by simp, rfl, h⟩))
        refine Rd.Steps.cons (i := 6) (by rfl) (fun vals W hW hΦ K hK => ?_) ?_
        · refine Rg.norm_step (a' := ?_) ?_ ?_
          rotate_left
          · simp only [Rg.actOf, putAll, List.map_cons, List.map_nil, Act.put, List.setIfInBounds_toArray, List.set_cons_zero, List.set_cons_succ]
            rfl
          refine value_ (w1 := ?_) (v := ?_) (by rfl) rfl ?_ ?_
          rotate_left 2
          · go_simp
            constructor
            · rfl
            · rfl
          exact hK.out _ _ ((Below.refl _ W).alloc (Nat.le_refl _) _) ⟨W.heap.size, _, rfl, Nat.le_trans HS6.out (HD.out.trans (hW.mono HD.out.size)).size, grown_new _ _, rfl⟩ (fun b hb => .inl (by simp [Value.ownBlock] at hb; omega))
        exact Rd.Steps.nil
      intro vals W hW hΦ hAP hHeld
      have h5 : (Kd.int .i64).R 3 W b6 (fun _ => True) (vals 5) x.f0 := hΦ (5, 29, false, [(2, 26)]) (by simp)
      have h6 : Rg.Empty 3 b6 (vals 6) W := hΦ (6, 30, false, []) (by simp)
      have hap : Rd.Apart (vals 5) (vals 6) := hAP (5, 29, false, [(2, 26)]) (by simp) (6, 30, false, []) (by simp) (by decide)
      obtain ⟨A5, d5, e5⟩ := Kd.R_slice h5
      rw [e5] at h5 hap
      refine norm_ (a' := ?_) ?_ ?_
      rotate_left
      · simp only [Rg.actOf, putAll, List.map_cons, List.map_nil, Act.put, List.setIfInBounds_toArray, List.set_cons_zero, List.set_cons_succ]
        rfl
      rw [e5]
      generalize vals 2 = v2
      generalize vals 6 = v6 at *
      have H5 := Aside0.mk h5
      have H6 := Aside0.mk h6
      have HAP := Aside0.mk hap
      have HW0 := Aside0.mk (HD.out.trans (hW.mono HD.out.size))
      clear e5 hΦ h5 h6 hap hAP hW
      refine one_ (i := 9) (N := some 33) #[true, true, true, true, true, true, true, true, true, true, true, true, false, false, false, false, false] rfl rfl (by kernel_rfl) (by decide) (fun K hK => ?_)
      refine Rd.fresh_append (α := Int) (enc := Value.int .i64) (h1 := fun _ => rfl) b6 (by rfl) (.tmp 30) (.tmp 32) 25 3 (.int .i64 0) 8 rfl rfl Try.underlying25 info3 rfl (by decide) v6 x.f1 A1 x.f1.length c1 (by rfl) (by rfl) H6.out (Kd.C_below HG1.out (HBR.out.trans (HW0.out.mono HBR.out.size))) (Nat.le_trans HS6.out HW0.out.size) (by omega) ?_
      intro v9 w8 hr hb hfr
      obtain ⟨A9, d9, rfl⟩ := Kd.R_slice hr
      have HAQ : Aside0 (Rd.Apart (.slice A5 x.f0.length d5) (.slice A9 x.f1.length d9)) := ⟨fun k h1 h2 => (hfr k h2).elim (fun h => by have := Kd.R_lt H5.out k h1; omega) (fun h => HAP.out k h1 h)⟩
      have H9 := Aside0.mk hr
      replace H5 := Aside0.mk (Kd.R_below H5.out hb)
      have HW1 := Aside0.mk (HW0.out.trans (hb.mono HW0.out.size))
      have HBW := Aside0.mk (HBR.out.trans (HW1.out.mono HBR.out.size))
      have HB7 := Aside0.mk (HB6.out.trans (HW1.out.mono HB6.out.size))
      have K47 := Aside0.mk (blk_below K4.out HW1.out)
      clear hr hb hfr K4 K6 HB6 HAP H6
      refine hK.out _ _ (HC.out _ HW1.out) (fun hHeld => ?_)
      clear hK K
      refine norm_ (a' := ?_) ?_ ?_
      rotate_left
      · show Act.put _ (some 33) _ = _
        simp only [Act.put, List.setIfInBounds_toArray, List.set_cons_zero, List.set_cons_succ, i64_w, i32_w]
        rfl
      refine pure_ (i := 12) (N := some 36) (v := ?_) (a' := ?_) #[true, true, true, true, true, true, true, true, true, true, true, true, true, false, false, false, false] rfl rfl (by kernel_rfl) (fun _ _ _ h => h) (Or.inl ⟨by rfl, ?_⟩) ?_ ?_
      rotate_left
      · intro w'
        go_simp
        with_reducible rfl
      rotate_left
      · simp only [Act.put, List.setIfInBounds_toArray, List.set_cons_zero, List.set_cons_succ, i64_w, i32_w]
        rfl
      refine one_ (i := 13) (N := some 37) #[true, true, true, true, true, true, true, true, true, true, true, true, true, true, false, false, false] rfl rfl (by kernel_rfl) (by decide) (fun K hK => ?_)
      refine value_ (w1 := ?_) (v := ?_) (by rfl) rfl ?_ ?_
      rotate_left 2
      · go_simp
        constructor
        · rfl
        · rfl
      have hW2 : Below w8.heap.size w8 (w8.alloc (Obj.cells #[.slice A5 x.f0.length d5, .slice A9 x.f1.length d9, .int .i64 x.f2] 51)) := (Below.refl _ w8).alloc (Nat.le_refl _) _
      replace HW1 := Aside0.mk (HW1.out.trans (hW2.mono HW1.out.size))
      clear hW2
      refine hK.out _ _ (HC.out _ HW1.out) (fun hHeld => ?_)
      clear hK K
      refine norm_ (a' := ?_) ?_ ?_
      rotate_left
      · show Act.put _ (some 37) _ = _
        simp only [Act.put, List.setIfInBounds_toArray, List.set_cons_zero, List.set_cons_succ, i64_w, i32_w]
        rfl
      refine last_ (i := 14) (N := some 38) #[true, true, true, true, true, true, true, true, true, true, true, true, true, true, true, false, false] rfl rfl (by kernel_rfl) (by decide) (fun K hK => ?_)
      refine step_append_cells (w0 := w8) B (by rfl) (.tmp 25) (.tmp 37) 41 51 (.agg #[.slice none 0 0, .slice none 0 0, .int .i64 0]) 3 56 rfl Try.underlying41 info51 rfl (by decide) (by decide) v i cells [.slice A5 x.f0.length d5, .slice A9 x.f1.length d9, .int .i64 x.f2] (by rfl) (by rfl) rfl (fun u hu => by simp at hu; rcases hu with rfl | rfl | rfl <;> rfl) (pw_own_below HO.out HBW.out) (Below.refl _ _) (Nat.le_trans HBS.out HBW.out.size) (by omega) ?_
      intro v9 w9 ho9 hb9 hg9 hat9
      obtain ⟨A14, d14, rfl⟩ := own_slice ho9
      have HO9 := Aside0.mk ho9
      have HG9 := Aside0.mk hg9
      have HGR : Aside0 (wr.grownBy w9 v.ownBlock) := ⟨World.grownBy.trans (grown_of_below HBW.out _) hg9⟩
      have K49 := Aside0.mk (blk_grown K47.out hg9 (fun e => by have h := own_base HO.out _ e.symm; have := HGB.out; omega))
      clear ho9 hb9 hg9 hat9
      refine hK.out _ _ ?_
      clear hK K
      refine norm_ (a' := ?_) ?_ ?_
      rotate_left
      · show Act.put _ (some 38) _ = _
        simp only [Act.put, List.setIfInBounds_toArray, List.set_cons_zero, List.set_cons_succ, i64_w, i32_w]
        rfl
      refine pure_ (i := 15) (N := some 39) (v := ?_) (a' := ?_) #[true, true, true, true, true, true, true, true, true, true, true, true, true, true, true, true, false] rfl rfl (by kernel_rfl) (fun _ _ _ h => h) (Or.inl ⟨by rfl, ?_⟩) ?_ ?_
      rotate_left
      · intro w'
        go_simp
        with_reducible rfl
      rotate_left
      · simp only [Act.put, List.setIfInBounds_toArray, List.set_cons_zero, List.set_cons_succ, i64_w, i32_w]
        rfl
      refine last_ (i := 16) (N := none) #[true, true, true, true, true, true, true, true, true, true, true, true, true, true, true, true, true] rfl rfl (by kernel_rfl) (by decide) (fun K hK => ?_)
      have k4c := (blk_cell K49.out 2).trans (show _ = some v from rfl)
      have k4f := blk_frozen K49.out 2
      refine skip_ (w1 := ?_) (by rfl) rfl ?_ ?_
      rotate_left
      · go_simp
        rfl
      clear k4c k4f
      refine hK.out _ _ ?_
      clear hK K
      refine done_ (by kernel_rfl) ?_
      clear HC HD HW1 HW0
      have HF9 : Aside0 (∀ k, (Value.slice A5 x.f0.length d5).ownBlock = some k → b6 ≤ k) := ⟨Kd.R_base H5.out⟩
      have HF19 : Aside0 (∀ k, (Value.slice A9 x.f1.length d9).ownBlock = some k → b6 ≤ k) := ⟨Kd.R_base H9.out⟩
      have ha9 : IntR w9 B (.slice A5 x.f0.length d5) x.f0 := IntR.move (Kd.R_lower H5.out HS0.out) (fun k hk hlt => HG9.out.block k hlt (fun e => by have h1 := HF9.out k hk; have h2 := own_lt HO.out k e.symm; have := HWS.out; omega))
      have hc9 : IntR w9 B (.slice A9 x.f1.length d9) x.f1 := IntR.move (Kd.R_lower H9.out HS0.out) (fun k hk hlt => HG9.out.block k hlt (fun e => by have h1 := HF19.out k hk; have h2 := own_lt HO.out k e.symm; have := HWS.out; omega))
      have HW9 := Aside0.mk (Wr.snoc (f' := fun k => if k < b6 then f k else if some k = (Value.slice A5 x.f0.length d5).ownBlock then 2 * i + 1 else 2 * i + 2) x (by rw [HTI.out]; exact HO.out) HE.out (by rw [HTI.out]; exact HO9.out) HGR.out (fun k hk _ => if_pos (by have := HWS.out; omega))
        ha9 (fun k hk => by rw [HTI.out]; show (if k < b6 then f k else if some k = (Value.slice A5 x.f0.length d5).ownBlock then 2 * i + 1 else 2 * i + 2) = _; rw [if_neg (by have := HF9.out k hk; omega), if_pos hk.symm])
        hc9 (fun k hk => by rw [HTI.out]; show (if k < b6 then f k else if some k = (Value.slice A5 x.f0.length d5).ownBlock then 2 * i + 1 else 2 * i + 2) = _; rw [if_neg (by have := HF19.out k hk; omega), if_neg (fun e => HAQ.out k e.symm hk)]))
      rw [← HTS.out] at HW9
      have HWQ : Aside0 (w.heap.size ≤ gq) := HGQ
      have HB10 : Aside0 (Below w.heap.size w (w9.setCell ⟨gq, 2, none⟩ (.slice A14 (i + 1) d14))) := ⟨(pw_below_grown HB7.out _ HB7.out.size HG9.out (fun k hk => by have := own_base HO.out k hk; have := HGB.out; have := HWQ.out; omega)).setCell (p := ⟨gq, 2, none⟩) HWQ.out _⟩
      have HW10 : Aside0 (Wr (w9.setCell ⟨gq, 2, none⟩ (.slice A14 (i + 1) d14)) B (.slice A14 (i + 1) d14) (ws.take (i + 1)) (fun k => if k < b6 then f k else if some k = (Value.slice A5 x.f0.length d5).ownBlock then 2 * i + 1 else 2 * i + 2)) := ⟨HW9.out.move (fun k hk _ => Below.heap_setCell w9 ⟨gq, 2, none⟩ _ k (by have := HGB.out; show k ≠ gq; omega))⟩
      have K410 : Aside0 ((w9.setCell ⟨gq, 2, none⟩ (.slice A14 (i + 1) d14)).heap[gq]? = some (.cells #[.int .i64 b, .int .i64 d, (.slice A14 (i + 1) d14)] 43 (0, 0))) := ⟨blk_put (cs := #[.int .i64 b, .int .i64 d, v]) K49.out 2 _ rfl⟩
      have HBS10 : Aside0 (B ≤ (w9.setCell ⟨gq, 2, none⟩ (.slice A14 (i + 1) d14)).heap.size) := ⟨by have := HGR.out.size; have := HBS.out; simp [World.setCell]; omega⟩
      clear HW9 ha9 hc9 HO9 HG9 HGR K49 K47 HB7 HBW H5 H9 HAQ HO HE HWR HB HBS HPP HBR HG0 HG1
      generalize w9.setCell ⟨gq, 2, none⟩ (.slice A14 (i + 1) d14) = w10 at *
      go_wp2_with fail
      go_roundg (ws.length - (i + 1))
      case measure => omega
      case rel => exact ⟨i + 1, _, _, by go_num, by omega, HW10, K410, HBS10, HB10⟩
    ·
      have hge : decide (i < ws.length) = false := decide_eq_false hlt
      have HQ : Aside0 (Qs wr gq B b d ws) := ⟨v, f, K4.out, by have h := HWR.out; rwa [List.take_of_length_le (by omega)] at h, HGB.out, HBS.out⟩
      have Pc2 := (blk_cell HPP.out 2).trans (show _ = some (.slice A ws.length c) from rfl)
      clear hi hlt HWR K4
      go_wp2_with fail
      clear Pc2
      have hcc := HCH.out gq B wr HB.out HGQ.out HQ.out
      simp only [List.append_toArray, List.cons_append, List.nil_append] at hcc
      refine hcc.mono ?_
      clear hcc
      rintro e w11 ⟨rfl, ⟨v', f', k4, hwr, hgb, hbs⟩, hb⟩
      obtain ⟨A', c', rfl⟩ := hwr.slice
      have HRD := Aside0.mk hwr.reads
      have HK4 := Aside0.mk k4
      have HB11 := Aside0.mk (HB.out.trans (hb.mono HGQ.out))
      have Kc0 := (blk_cell k4 0).trans (show _ = some (.int .i64 b') from rfl)
      have Kc1 := (blk_cell k4 1).trans (show _ = some (.int .i64 d) from rfl)
      have Kc2 := (blk_cell k4 2).trans (show _ = some (.slice A' ws'.length c') from rfl)
      clear k4 hwr hgb hbs hb HQ HB
      go_wp2_with fail
      clear Kc0 Kc1 Kc2
      refine (check_calls b' d A' c' ws' w11 HRD.out.2.2 HRD.out.2.1 HZ2.out).mono ?_
      rintro e w12 ⟨rfl, hb⟩
      have HB12 := Aside0.mk (HB11.out.trans (hb.mono HB11.out.size))
      clear hb
      go_wp2_with fail
      go_ret
      exact ⟨rfl, HB12.out⟩
set_option maxHeartbeats 8000000 in
set_option maxRecDepth 100000 in
theorem turn_calls2 (b d : Int) (A : Option Addr) (c : Nat) (ws : List S51) (b' : Int) (ws' : List S51) (g bp : Nat) (x1 x2 : Value) (w : World) (hp : w.heap[bp]? = some (.cells #[.int .i64 b, .int .i64 d, .slice A ws.length c] 43 (0, 0))) (hC : k51.C w A ws.length ws) (hcap : ws.length ≤ c)
    (hz : Psz ws) (hz' : Psz ws') (hl' : ws'.length ≤ 10000) (hcf : ∀ (args : Array Value) (w : World), (callFunc g args).run Try.prog w = .ok (.enter g args) w) (hchg : Chg w g #[x1, x2] b d ws b' ws') :
    Calls Try.prog 38 #[.func (.func g) #[] #[x1, x2], .pointer (some ⟨bp, 0, none⟩)] w fun e w' => e = .returned (.int .i64 (checkF b' d ws')) ∧ Below w.heap.size w w' := by
  have hu51 := Try.underlying51
  have hu43 := Try.underlying43
  have hu25 := Try.underlying25
  have HP := Aside0.mk hp
  have HCC := Aside0.mk hC
  have HZ := Aside0.mk hz
  have HZ2 := Aside0.mk hz'
  have HCH := Aside0.mk hchg
  have hmax := hC.2.1
  have HB : Aside0 (Below w.heap.size w w) := ⟨Below.refl _ _⟩
  clear hp hC hz hz' hchg
  have Pc0 := (blk_cell HP.out 0).trans (show _ = some (.int .i64 b) from rfl)
  have Pc1 := (blk_cell HP.out 1).trans (show _ = some (.int .i64 d) from rfl)
  go_enter Try.func38, Try.ntmps38
  go_upto_region 3 with fail
  clear Pc0 Pc1
  have hbx : Below w.heap.size w (w.alloc (Obj.cells #[.int .i64 b, .int .i64 d, .slice none 0 0] 43)) := (Below.refl _ w).alloc (Nat.le_refl _) _
  have K4 := Aside0.mk (grown_new (w := w) #[.int .i64 b, .int .i64 d, .slice none 0 0] 43)
  obtain ⟨gq, hgq⟩ : ∃ b, w.heap.size = b := ⟨_, rfl⟩
  have HGQ : Aside0 (w.heap.size ≤ gq) := ⟨by omega⟩
  replace HB := Aside0.mk (HB.out.trans (hbx.mono HB.out.size))
  clear hbx
  generalize w.alloc (Obj.cells #[.int .i64 b, .int .i64 d, .slice none 0 0] 43) = w1 at *
  rw [hgq] at K4 ⊢
  clear hgq
  obtain ⟨B, hB⟩ : ∃ B, B = w1.heap.size := ⟨_, rfl⟩
  have HGB : Aside0 (gq < B) := ⟨by rw [hB]; exact blk_lt K4.out⟩
  have HBS : Aside0 (B ≤ w1.heap.size) := ⟨by omega⟩
  clear hB
  go_loopg [5] ws.length (fun kq v5 wr => ∃ (i : Nat) (v : Value) (f : Nat → Nat), v5 = .int .i64 i ∧ i + kq = ws.length ∧ Aside0 (Wr wr B v (ws.take i) f) ∧ Aside0 (wr.heap[gq]? = some (.cells #[.int .i64 b, .int .i64 d, v] 43 (0, 0))) ∧ Aside0 (B ≤ wr.heap.size) ∧ Aside0 (Below w.heap.size w wr))
  case atStart => exact ⟨0, _, fun _ => 0, rfl, by omega, ⟨Wr.nil _ _ _⟩, K4, HBS, HB⟩
  case round =>
    clear K4 HB HBS
    obtain ⟨i, v, f, rfl, hi, HWR, K4, HBS, HB⟩ := hrel
    have HPP := Aside0.mk (blk_below HP.out HB.out)
    by_cases hlt : i < ws.length
    ·
      have hlt' : (i : Int) < (ws.length : Int) := by omega
      obtain ⟨ad, A0, c0, A1, c1, ea, y0, y1, y2, l0, g0, l1, g1⟩ := at_T51 (Kd.C_below HCC.out HB.out) i (by omega) hlt'
      subst ea
      rw [at51 ws hlt] at y0 y1 y2 l0 g0 l1 g1
      simp only [Int.toNat_natCast] at y0 y1 y2
      have HTS : Aside0 (ws.take (i + 1) = ws.take i ++ [ws[i]]) := ⟨List.take_succ_eq_append_getElem hlt⟩
      have hri := HZ.out.rows _ (List.getElem_mem hlt)
      have hrj := HZ.out.rows1 _ (List.getElem_mem hlt)
      have hwl := HZ.out.n
      have HG0 := Aside0.mk g0
      have HG1 := Aside0.mk g1
      clear g0 g1
      generalize ws[i] = x at y0 y1 y2 l0 l1 HG0 HG1 HTS hri hrj
      obtain ⟨cells, ho, he⟩ := HWR.out
      have hti : (ws.take i).length = i := by rw [List.length_take]; omega
      have HTI := Aside0.mk hti
      have HO : Aside0 (wr.ownsRow B 51 3 v i cells) := ⟨by rw [← hti]; exact ho⟩
      have HE := Aside0.mk he
      clear ho he hti
      have Pc2 := (blk_cell HPP.out 2).trans (show _ = some (.slice (some ad) ws.length c) from rfl)
      go_upto_region 6 with fail
      clear Pc2 y0 y1 y2
      have hbx : Below wr.heap.size wr (wr.alloc (Obj.cells #[.slice A0 x.f0.length c0, .slice A1 x.f1.length c1, .int .i64 x.f2] 51)) := (Below.refl _ wr).alloc (Nat.le_refl _) _
      have K6 := Aside0.mk (grown_new (w := wr) #[.slice A0 x.f0.length c0, .slice A1 x.f1.length c1, .int .i64 x.f2] 51)
      have HBR := Aside0.mk hbx
      replace K4 := Aside0.mk (blk_below K4.out hbx)
      have HB6 := Aside0.mk (HB.out.trans (hbx.mono HB.out.size))
      clear hbx
      obtain ⟨b6, hb6⟩ : ∃ b, wr.heap.size = b := ⟨_, rfl⟩
      generalize wr.alloc (Obj.cells #[.slice A0 x.f0.length c0, .slice A1 x.f1.length c1, .int .i64 x.f2] 51) = w6 at *
      rw [hb6] at K6 ⊢
      have HS6 : Aside0 (b6 ≤ w6.heap.size) := ⟨by rw [← hb6]; exact HBR.out.size⟩
      have HS0 : Aside0 (B ≤ b6) := ⟨by rw [← hb6]; exact HBS.out⟩
      have HWS := Aside0.mk hb6
      clear hb6
      have HD : Aside0 (Below w6.heap.size w6 w6.drew) := ⟨(Below.refl _ _).drew⟩
      have HC : Aside0 (∀ W, Below w6.heap.size w6 W → W.cell? ⟨gq, 2, none⟩ = some (v) ∧ W.cell? ⟨b6, 0, none⟩ = some (.slice A0 x.f0.length c0) ∧ W.cell? ⟨b6, 1, none⟩ = some (.slice A1 x.f1.length c1) ∧ W.cell? ⟨b6, 2, none⟩ = some (.int .i64 x.f2)) := ⟨fun W hW => ⟨(blk_cell (blk_below K4.out hW) 2).trans rfl, (blk_cell (blk_below K6.out hW) 0).trans rfl, (blk_cell (blk_below K6.out hW) 1).trans rfl, (blk_cell (blk_below K6.out hW) 2).trans rfl⟩⟩
      refine start_ (n := 17) (S := fun w' => w'.cell? ⟨gq, 2, none⟩ = some (v) ∧ w'.cell? ⟨b6, 0, none⟩ = some (.slice A0 x.f0.length c0) ∧ w'.cell? ⟨b6, 1, none⟩ = some (.slice A1 x.f1.length c1) ∧ w'.cell? ⟨b6, 2, none⟩ = some (.int .i64 x.f2)) (ds := [14, 16]) #[false, false, false, false, false, false, false, false, false, false, false, false, false, false, false, false, false] (by kernel_rfl) rfl rfl (HC.out _ HD.out) (fun hHeld => ?_)
      refine pure_ (i := 0) (N := some 24) (v := ?_) (a' := ?_) #[true, false, false, false, false, false, false, false, false, false, false, false, false, false, false, false, false] rfl rfl (by kernel_rfl) (fun _ _ _ h => h) (Or.inl ⟨by rfl, ?_⟩) ?_ ?_
      rotate_left
      · intro w'
        go_simp
        with_reducible rfl
      rotate_left
      · simp only [Act.put, List.setIfInBounds_toArray, List.set_cons_zero, List.set_cons_succ, i64_w, i32_w]
        rfl
      refine pure_ (i := 3) (N := some 27) (v := ?_) (a' := ?_) #[true, false, false, true, false, false, false, false, false, false, false, false, false, false, false, false, false] rfl rfl (by kernel_rfl) (fun _ _ _ h => h) (Or.inl ⟨by rfl, ?_⟩) ?_ ?_
      rotate_left
      · intro w'
        go_simp
        with_reducible rfl
      rotate_left
      · simp only [Act.put, List.setIfInBounds_toArray, List.set_cons_zero, List.set_cons_succ, i64_w, i32_w]
        rfl
      refine pure_ (i := 7) (N := some 31) (v := ?_) (a' := ?_) #[true, false, false, true, false, false, false, true, false, false, false, false, false, false, false, false, false] rfl rfl (by kernel_rfl) (fun _ _ _ h => h) (Or.inl ⟨by rfl, ?_⟩) ?_ ?_
      rotate_left
      · intro w'
        go_simp
        with_reducible rfl
      rotate_left
      · simp only [Act.put, List.setIfInBounds_toArray, List.set_cons_zero, List.set_cons_succ, i64_w, i32_w]
        rfl
      refine pure_ (i := 10) (N := some 34) (v := ?_) (a' := ?_) #[true, false, false, true, false, false, false, true, false, false, true, false, false, false, false, false, false] rfl rfl (by kernel_rfl) (fun _ _ _ h => h) (Or.inl ⟨by rfl, ?_⟩) ?_ ?_
      rotate_left
      · intro w'
        go_simp
        with_reducible rfl
      rotate_left
      · simp only [Act.put, List.setIfInBounds_toArray, List.set_cons_zero, List.set_cons_succ, i64_w, i32_w]
        rfl
      refine take_ (i := 1) (N := some 25) (v := ?_) (a' := ?_) #[true, true, false, true, false, false, false, true, false, false, true, false, false, false, false, false, false] rfl rfl (by kernel_rfl) (fun _ _ _ h => h) (Or.inl ⟨by rfl, ?_⟩) hHeld ?_ ?_
      rotate_left
      · rintro w' ⟨s0, s1, s2, s3⟩
        go_simp
        with_reducible rfl
      rotate_left
      · simp only [Act.put, List.setIfInBounds_toArray, List.set_cons_zero, List.set_cons_succ, i64_w, i32_w]
        rfl
      refine take_ (i := 4) (N := some 28) (v := ?_) (a' := ?_) #[true, true, false, true, true, false, false, true, false, false, true, false, false, false, false, false, false] rfl rfl (by kernel_rfl) (fun _ _ _ h => h) (Or.inl ⟨by rfl, ?_⟩) hHeld ?_ ?_
      rotate_left
      · rintro w' ⟨s0, s1, s2, s3⟩
        go_simp
        with_reducible rfl
      rotate_left
      · simp only [Act.put, List.setIfInBounds_toArray, List.set_cons_zero, List.set_cons_succ, i64_w, i32_w]
        rfl
      refine take_ (i := 8) (N := some 32) (v := ?_) (a' := ?_) #[true, true, false, true, true, false, false, true, true, false, true, false, false, false, false, false, false] rfl rfl (by kernel_rfl) (fun _ _ _ h => h) (Or.inl ⟨by rfl, ?_⟩) hHeld ?_ ?_
      rotate_left
      · rintro w' ⟨s0, s1, s2, s3⟩
        go_simp
        with_reducible rfl
      rotate_left
      · simp only [Act.put, List.setIfInBounds_toArray, List.set_cons_zero, List.set_cons_succ, i64_w, i32_w]
        rfl
      refine take_ (i := 11) (N := some 35) (v := ?_) (a' := ?_) #[true, true, false, true, true, false, false, true, true, false, true, true, false, false, false, false, false] rfl rfl (by kernel_rfl) (fun _ _ _ h => h) (Or.inl ⟨by rfl, ?_⟩) hHeld ?_ ?_
      rotate_left
      · rintro w' ⟨s0, s1, s2, s3⟩
        go_simp
        with_reducible rfl
      rotate_left
      · simp only [Act.put, List.setIfInBounds_toArray, List.set_cons_zero, List.set_cons_succ, i64_w, i32_w]
        rfl
      refine Rd.rg_ (R := [(2, 26, false, []), (5, 29, false, [(2, 26)]), (6, 30, false, [])]) 6 #[true, true, true, true, true, true, true, true, true, false, true, true, false, false, false, false, false] (clsT) (PhiT x b6) (PhiT.lb _ _) (by kernel_rfl) rfl (PhiT.st _ _) (fun w1 hW => HC.out _ (HD.out.trans (hW.mono HD.out.size))) ?_ (fun _ _ _ _ _ h => h) ?_
      · refine Rd.Steps.cons (i := 2) (by rfl) (fun vals W hW hΦ K hK => ?_) ?_
        · refine Rg.norm_step (a' := ?_) ?_ ?_
          rotate_left
          · simp only [Rg.actOf, putAll, List.map_cons, List.map_nil, Act.put, List.setIfInBounds_toArray, List.set_cons_zero, List.set_cons_succ]
            rfl
          refine value_ (w1 := ?_) (v := ?_) (by rfl) rfl ?_ ?_
          rotate_left 2
          · go_simp
            constructor
            · rfl
            · rfl
          exact hK.out _ _ ((Below.refl _ W).alloc (Nat.le_refl _) _) ⟨W.heap.size, _, rfl, Nat.le_trans HS6.out (HD.out.trans (hW.mono HD.out.size)).size, grown_new _ _, rfl⟩ (fun b hb => .inl (by simp [Value.ownBlock] at hb; omega))
        refine Rd.Steps.cons (i := 5) (by rfl) (fun vals W hW hΦ K hK => ?_) ?_
        · refine Rg.norm_step (a' := ?_) ?_ ?_
          rotate_left
          · simp only [Rg.actOf, putAll, List.map_cons, List.map_nil, Act.put, List.setIfInBounds_toArray, List.set_cons_zero, List.set_cons_succ]
            rfl
          have hE : Rg.Empty 3 b6 (vals 2) W := hΦ (2, 26) (by simp)
          refine Rd.fresh_append (α := Int) (enc := Value.int .i64) (h1 := fun _ => rfl) b6 (by rfl) (.tmp 26) (.tmp 28) 25 3 (.int .i64 0) 8 rfl rfl Try.underlying25 info3 rfl (by decide) (vals 2) x.f0 A0 x.f0.length c0 (by rfl) (by rfl) hE (Kd.C_below HG0.out (HBR.out.trans ((HD.out.trans (hW.mono HD.out.size)).mono HBR.out.size))) (Nat.le_trans HS6.out (HD.out.trans (hW.mono HD.out.size)).size) (by omega) ?_
          intro v1 w1 hr hb hfr
          exact hK.out _ _ hb hr (fun b hb => (hfr b hb).elim .inl (fun h => .inr ⟨(2, 26), by simp, rfl, h⟩))
        refine Rd.Steps.cons (i := 6) (by rfl) (fun vals W hW hΦ K hK => ?_) ?_
        · refine Rg.norm_step (a' := ?_) ?_ ?_
          rotate_left
          · simp only [Rg.actOf, putAll, List.map_cons, List.map_nil, Act.put, List.setIfInBounds_toArray, List.set_cons_zero, List.set_cons_succ]
            rfl
          refine value_ (w1 := ?_) (v := ?_) (by rfl) rfl ?_ ?_
          rotate_left 2
          · go_simp
            constructor
            · rfl
            · rfl
          exact hK.out _ _ ((Below.refl _ W).alloc (Nat.le_refl _) _) ⟨W.heap.size, _, rfl, Nat.le_trans HS6.out (HD.out.trans (hW.mono HD.out.size)).size, grown_new _ _, rfl⟩ (fun b hb => .inl (by simp [Value.ownBlock] at hb; omega))
        exact Rd.Steps.nil
      intro vals W hW hΦ hAP hHeld
      have h5 : (Kd.int .i64).R 3 W b6 (fun _ => True) (vals 5) x.f0 := hΦ (5, 29, false, [(2, 26)]) (by simp)
      have h6 : Rg.Empty 3 b6 (vals 6) W := hΦ (6, 30, false, []) (by simp)
      have hap : Rd.Apart (vals 5) (vals 6) := hAP (5, 29, false, [(2, 26)]) (by simp) (6, 30, false, []) (by simp) (by decide)
      obtain ⟨A5, d5, e5⟩ := Kd.R_slice h5
      rw [e5] at h5 hap
      refine norm_ (a' := ?_) ?_ ?_
      rotate_left
      · simp only [Rg.actOf, putAll, List.map_cons, List.map_nil, Act.put, List.setIfInBounds_toArray, List.set_cons_zero, List.set_cons_succ]
        rfl
      rw [e5]
      generalize vals 2 = v2
      generalize vals 6 = v6 at *
      have H5 := Aside0.mk h5
      have H6 := Aside0.mk h6
      have HAP := Aside0.mk hap
      have HW0 := Aside0.mk (HD.out.trans (hW.mono HD.out.size))
      clear e5 hΦ h5 h6 hap hAP hW
      refine one_ (i := 9) (N := some 33) #[true, true, true, true, true, true, true, true, true, true, true, true, false, false, false, false, false] rfl rfl (by kernel_rfl) (by decide) (fun K hK => ?_)
      refine Rd.fresh_append (α := Int) (enc := Value.int .i64) (h1 := fun _ => rfl) b6 (by rfl) (.tmp 30) (.tmp 32) 25 3 (.int .i64 0) 8 rfl rfl Try.underlying25 info3 rfl (by decide) v6 x.f1 A1 x.f1.length c1 (by rfl) (by rfl) H6.out (Kd.C_below HG1.out (HBR.out.trans (HW0.out.mono HBR.out.size))) (Nat.le_trans HS6.out HW0.out.size) (by omega) ?_
      intro v9 w8 hr hb hfr
      obtain ⟨A9, d9, rfl⟩ := Kd.R_slice hr
      have HAQ : Aside0 (Rd.Apart (.slice A5 x.f0.length d5) (.slice A9 x.f1.length d9)) := ⟨fun k h1 h2 => (hfr k h2).elim (fun h => by have := Kd.R_lt H5.out k h1; omega) (fun h => HAP.out k h1 h)⟩
      have H9 := Aside0.mk hr
      replace H5 := Aside0.mk (Kd.R_below H5.out hb)
      have HW1 := Aside0.mk (HW0.out.trans (hb.mono HW0.out.size))
      have HBW := Aside0.mk (HBR.out.trans (HW1.out.mono HBR.out.size))
      have HB7 := Aside0.mk (HB6.out.trans (HW1.out.mono HB6.out.size))
      have K47 := Aside0.mk (blk_below K4.out HW1.out)
      clear hr hb hfr K4 K6 HB6 HAP H6
      refine hK.out _ _ (HC.out _ HW1.out) (fun hHeld => ?_)
      clear hK K
      refine norm_ (a' := ?_) ?_ ?_
      rotate_left
      · show Act.put _ (some 33) _ = _
        simp only [Act.put, List.setIfInBounds_toArray, List.set_cons_zero, List.set_cons_succ, i64_w, i32_w]
        rfl
      refine pure_ (i := 12) (N := some 36) (v := ?_) (a' := ?_) #[true, true, true, true, true, true, true, true, true, true, true, true, true, false, false, false, false] rfl rfl (by kernel_rfl) (fun _ _ _ h => h) (Or.inl ⟨by rfl, ?_⟩) ?_ ?_
      rotate_left
      · intro w'
        go_simp
        with_reducible rfl
      rotate_left
      · simp only [Act.put, List.setIfInBounds_toArray, List.set_cons_zero, List.set_cons_succ, i64_w, i32_w]
        rfl
      refine one_ (i := 13) (N := some 37) #[true, true, true, true, true, true, true, true, true, true, true, true, true, true, false, false, false] rfl rfl (by kernel_rfl) (by decide) (fun K hK => ?_)
      refine value_ (w1 := ?_) (v := ?_) (by rfl) rfl ?_ ?_
      rotate_left 2
      · go_simp
        constructor
        · rfl
        · rfl
      have hW2 : Below w8.heap.size w8 (w8.alloc (Obj.cells #[.slice A5 x.f0.length d5, .slice A9 x.f1.length d9, .int .i64 x.f2] 51)) := (Below.refl _ w8).alloc (Nat.le_refl _) _
      replace HW1 := Aside0.mk (HW1.out.trans (hW2.mono HW1.out.size))
      clear hW2
      refine hK.out _ _ (HC.out _ HW1.out) (fun hHeld => ?_)
      clear hK K
      refine norm_ (a' := ?_) ?_ ?_
      rotate_left
      · show Act.put _ (some 37) _ = _
        simp only [Act.put, List.setIfInBounds_toArray, List.set_cons_zero, List.set_cons_succ, i64_w, i32_w]
        rfl
      refine last_ (i := 14) (N := some 38) #[true, true, true, true, true, true, true, true, true, true, true, true, true, true, true, false, false] rfl rfl (by kernel_rfl) (by decide) (fun K hK => ?_)
      refine step_append_cells (w0 := w8) B (by rfl) (.tmp 25) (.tmp 37) 41 51 (.agg #[.slice none 0 0, .slice none 0 0, .int .i64 0]) 3 56 rfl Try.underlying41 info51 rfl (by decide) (by decide) v i cells [.slice A5 x.f0.length d5, .slice A9 x.f1.length d9, .int .i64 x.f2] (by rfl) (by rfl) rfl (fun u hu => by simp at hu; rcases hu with rfl | rfl | rfl <;> rfl) (pw_own_below HO.out HBW.out) (Below.refl _ _) (Nat.le_trans HBS.out HBW.out.size) (by omega) ?_
      intro v9 w9 ho9 hb9 hg9 hat9
      obtain ⟨A14, d14, rfl⟩ := own_slice ho9
      have HO9 := Aside0.mk ho9
      have HG9 := Aside0.mk hg9
      have HGR : Aside0 (wr.grownBy w9 v.ownBlock) := ⟨World.grownBy.trans (grown_of_below HBW.out _) hg9⟩
      have K49 := Aside0.mk (blk_grown K47.out hg9 (fun e => by have h := own_base HO.out _ e.symm; have := HGB.out; omega))
      clear ho9 hb9 hg9 hat9
      refine hK.out _ _ ?_
      clear hK K
      refine norm_ (a' := ?_) ?_ ?_
      rotate_left
      · show Act.put _ (some 38) _ = _
        simp only [Act.put, List.setIfInBounds_toArray, List.set_cons_zero, List.set_cons_succ, i64_w, i32_w]
        rfl
      refine pure_ (i := 15) (N := some 39) (v := ?_) (a' := ?_) #[true, true, true, true, true, true, true, true, true, true, true, true, true, true, true, true, false] rfl rfl (by kernel_rfl) (fun _ _ _ h => h) (Or.inl ⟨by rfl, ?_⟩) ?_ ?_
      rotate_left
      · intro w'
        go_simp
        with_reducible rfl
      rotate_left
      · simp only [Act.put, List.setIfInBounds_toArray, List.set_cons_zero, List.set_cons_succ, i64_w, i32_w]
        rfl
      refine last_ (i := 16) (N := none) #[true, true, true, true, true, true, true, true, true, true, true, true, true, true, true, true, true] rfl rfl (by kernel_rfl) (by decide) (fun K hK => ?_)
      have k4c := (blk_cell K49.out 2).trans (show _ = some v from rfl)
      have k4f := blk_frozen K49.out 2
      refine skip_ (w1 := ?_) (by rfl) rfl ?_ ?_
      rotate_left
      · go_simp
        rfl
      clear k4c k4f
      refine hK.out _ _ ?_
      clear hK K
      refine done_ (by kernel_rfl) ?_
      clear HC HD HW1 HW0
      have HF9 : Aside0 (∀ k, (Value.slice A5 x.f0.length d5).ownBlock = some k → b6 ≤ k) := ⟨Kd.R_base H5.out⟩
      have HF19 : Aside0 (∀ k, (Value.slice A9 x.f1.length d9).ownBlock = some k → b6 ≤ k) := ⟨Kd.R_base H9.out⟩
      have ha9 : IntR w9 B (.slice A5 x.f0.length d5) x.f0 := IntR.move (Kd.R_lower H5.out HS0.out) (fun k hk hlt => HG9.out.block k hlt (fun e => by have h1 := HF9.out k hk; have h2 := own_lt HO.out k e.symm; have := HWS.out; omega))
      have hc9 : IntR w9 B (.slice A9 x.f1.length d9) x.f1 := IntR.move (Kd.R_lower H9.out HS0.out) (fun k hk hlt => HG9.out.block k hlt (fun e => by have h1 := HF19.out k hk; have h2 := own_lt HO.out k e.symm; have := HWS.out; omega))
      have HW9 := Aside0.mk (Wr.snoc (f' := fun k => if k < b6 then f k else if some k = (Value.slice A5 x.f0.length d5).ownBlock then 2 * i + 1 else 2 * i + 2) x (by rw [HTI.out]; exact HO.out) HE.out (by rw [HTI.out]; exact HO9.out) HGR.out (fun k hk _ => if_pos (by have := HWS.out; omega))
        ha9 (fun k hk => by rw [HTI.out]; show (if k < b6 then f k else if some k = (Value.slice A5 x.f0.length d5).ownBlock then 2 * i + 1 else 2 * i + 2) = _; rw [if_neg (by have := HF9.out k hk; omega), if_pos hk.symm])
        hc9 (fun k hk => by rw [HTI.out]; show (if k < b6 then f k else if some k = (Value.slice A5 x.f0.length d5).ownBlock then 2 * i + 1 else 2 * i + 2) = _; rw [if_neg (by have := HF19.out k hk; omega), if_neg (fun e => HAQ.out k e.symm hk)]))
      rw [← HTS.out] at HW9
      have HWQ : Aside0 (w.heap.size ≤ gq) := HGQ
      have HB10 : Aside0 (Below w.heap.size w (w9.setCell ⟨gq, 2, none⟩ (.slice A14 (i + 1) d14))) := ⟨(pw_below_grown HB7.out _ HB7.out.size HG9.out (fun k hk => by have := own_base HO.out k hk; have := HGB.out; have := HWQ.out; omega)).setCell (p := ⟨gq, 2, none⟩) HWQ.out _⟩
      have HW10 : Aside0 (Wr (w9.setCell ⟨gq, 2, none⟩ (.slice A14 (i + 1) d14)) B (.slice A14 (i + 1) d14) (ws.take (i + 1)) (fun k => if k < b6 then f k else if some k = (Value.slice A5 x.f0.length d5).ownBlock then 2 * i + 1 else 2 * i + 2)) := ⟨HW9.out.move (fun k hk _ => Below.heap_setCell w9 ⟨gq, 2, none⟩ _ k (by have := HGB.out; show k ≠ gq; omega))⟩
      have K410 : Aside0 ((w9.setCell ⟨gq, 2, none⟩ (.slice A14 (i + 1) d14)).heap[gq]? = some (.cells #[.int .i64 b, .int .i64 d, (.slice A14 (i + 1) d14)] 43 (0, 0))) := ⟨blk_put (cs := #[.int .i64 b, .int .i64 d, v]) K49.out 2 _ rfl⟩
      have HBS10 : Aside0 (B ≤ (w9.setCell ⟨gq, 2, none⟩ (.slice A14 (i + 1) d14)).heap.size) := ⟨by have := HGR.out.size; have := HBS.out; simp [World.setCell]; omega⟩
      clear HW9 ha9 hc9 HO9 HG9 HGR K49 K47 HB7 HBW H5 H9 HAQ HO HE HWR HB HBS HPP HBR HG0 HG1
      generalize w9.setCell ⟨gq, 2, none⟩ (.slice A14 (i + 1) d14) = w10 at *
      go_wp2_with fail
      go_roundg (ws.length - (i + 1))
      case measure => omega
      case rel => exact ⟨i + 1, _, _, by go_num, by omega, HW10, K410, HBS10, HB10⟩
    ·
      have hge : decide (i < ws.length) = false := decide_eq_false hlt
      have HQ : Aside0 (Qs wr gq B b d ws) := ⟨v, f, K4.out, by have h := HWR.out; rwa [List.take_of_length_le (by omega)] at h, HGB.out, HBS.out⟩
      have Pc2 := (blk_cell HPP.out 2).trans (show _ = some (.slice A ws.length c) from rfl)
      clear hi hlt HWR K4
      go_wp2_with fail
      clear Pc2
      have hcc := HCH.out gq B wr HB.out HGQ.out HQ.out
      simp only [List.append_toArray, List.cons_append, List.nil_append] at hcc
      refine hcc.mono ?_
      clear hcc
      rintro e w11 ⟨rfl, ⟨v', f', k4, hwr, hgb, hbs⟩, hb⟩
      obtain ⟨A', c', rfl⟩ := hwr.slice
      have HRD := Aside0.mk hwr.reads
      have HK4 := Aside0.mk k4
      have HB11 := Aside0.mk (HB.out.trans (hb.mono HGQ.out))
      have Kc0 := (blk_cell k4 0).trans (show _ = some (.int .i64 b') from rfl)
      have Kc1 := (blk_cell k4 1).trans (show _ = some (.int .i64 d) from rfl)
      have Kc2 := (blk_cell k4 2).trans (show _ = some (.slice A' ws'.length c') from rfl)
      clear k4 hwr hgb hbs hb HQ HB
      go_wp2_with fail
      clear Kc0 Kc1 Kc2
      refine (check_calls b' d A' c' ws' w11 HRD.out.2.2 HRD.out.2.1 HZ2.out).mono ?_
      rintro e w12 ⟨rfl, hb⟩
      have HB12 := Aside0.mk (HB11.out.trans (hb.mono HB11.out.size))
      clear hb
      go_wp2_with fail
      go_ret
      exact ⟨rfl, HB12.out⟩
end Go.Proofs.Ytkeadpichlgagaa.Pla
namespace Go.Proofs.Ytkeadpichlgagaa.Pla
open Go.RowKit Go.Lib Go.Sort Go.Shelf Go.Proofs.YtkeadpichlgagaaW.PrintWords Go.Proofs.YtkeadpichlgagaaW.PrintLast Go.Proofs.YtkeadpichlgagaaW.PrintMore
open Go.Proofs.Ytkeadpichlgagaa.Pl Go.Proofs.Ytkeadpichlgagaa.PlS Go.Proofs.Ytkeadpichlgagaa.Mp
set_option linter.unusedVariables false
set_option linter.unusedSimpArgs false
set_option linter.unnecessarySimpa false
theorem cf39 (args : Array Value) (w : World) : (callFunc 39 args).run Try.prog w = .ok (.enter 39 args) w := by kernel_rfl
theorem cf40 (args : Array Value) (w : World) : (callFunc 40 args).run Try.prog w = .ok (.enter 40 args) w := by kernel_rfl
theorem cf41 (args : Array Value) (w : World) : (callFunc 41 args).run Try.prog w = .ok (.enter 41 args) w := by kernel_rfl
theorem cf42 (args : Array Value) (w : World) : (callFunc 42 args).run Try.prog w = .ok (.enter 42 args) w := by kernel_rfl
theorem cf43 (args : Array Value) (w : World) : (callFunc 43 args).run Try.prog w = .ok (.enter 43 args) w := by kernel_rfl
theorem cf44 (args : Array Value) (w : World) : (callFunc 44 args).run Try.prog w = .ok (.enter 44 args) w := by kernel_rfl
theorem addr_zero (ad : Addr) : ad.add 0 = ad := by cases ad; simp [Addr.add]
set_option maxRecDepth 100000 in
theorem chg39 (w0 : World) (b d bud : Int) (ws : List S51) (bb : Nat) (hbb : w0.heap[bb]? = some (.cells #[.int .i64 bud] 3 (0, 0))) : Chg w0 39 #[.pointer (some ⟨bb, 0, none⟩)] b d ws bud ws := by
  intro gq B w hB hgq ⟨v, f, k4, hwr, hgb, hbs⟩
  have K4 := Aside0.mk k4
  have HWR := Aside0.mk hwr
  have Bc := (blk_cell (blk_below hbb hB) 0).trans (show _ = some (.int .i64 bud) from rfl)
  have k4c := (blk_cell k4 0).trans (show _ = some (.int .i64 b) from rfl)
  have k4f := blk_frozen k4 0
  clear k4 hwr
  simp only [List.append_toArray, List.cons_append, List.nil_append]
  go_enter Try.func39, Try.ntmps39
  go_wp2_with fail
  go_end0
  refine ⟨rfl, ⟨v, f, blk_put (cs := #[.int .i64 b, .int .i64 d, v]) K4.out 0 _ rfl, HWR.out.move (fun k hk _ => Below.heap_setCell w ⟨gq, 0, none⟩ _ k (by show k ≠ gq; omega)), hgb, by simpa [World.setCell] using hbs⟩, (Below.refl gq w).setCell (p := ⟨gq, 0, none⟩) (Nat.le_refl _) _⟩
set_option maxHeartbeats 4000000 in
set_option maxRecDepth 100000 in
theorem chg44 (w0 : World) (b d : Int) (ws : List S51) (k kb : Nat) (hk : k < ws.length) (hwl : ws.length ≤ 1000000) (hll : ws[k].f0.length ≤ 1000000) (hkb : w0.heap[kb]? = some (.cells #[.int .i64 k] 3 (0, 0)))  : Chg w0 44 #[.pointer (some ⟨kb, 0, none⟩)] b d ws b (ws.set k ⟨ws[k].f0 ++ [(k : Int)], ws[k].f1, ws[k].f2⟩) := by
  intro gq B w hB hgq ⟨v, f, k4, hwr, hgb, hbs⟩
  have HB := Aside0.mk hB
  have K4 := Aside0.mk k4
  have HGB := Aside0.mk hgb
  have HBS := Aside0.mk hbs
  have HKB := Aside0.mk hkb
  have HGQ := Aside0.mk hgq
  obtain ⟨g, cap, cells, va, vc, rfl, hBg, hgl, ho, he, e0, e1, ha, hc, hbk, y0, y1⟩ := hwr.at hk
  have HQK : Aside0 (ws[k]? = some ws[k]) := ⟨List.getElem?_eq_getElem hk⟩
  have hk' : (k : Int) < (ws.length : Int) := by omega
  have HLL := Aside0.mk hll
  have hmx : ws.length ≤ 1000000 := hwl
  obtain ⟨ad, had⟩ : ∃ ad : Addr, ad = ⟨g, 0, none⟩ := ⟨_, rfl⟩
  have HAD := Aside0.mk had
  have HO := Aside0.mk ho
  have HE := Aside0.mk he
  have H0 := Aside0.mk e0
  have HVC := Aside0.mk ha
  have HY : Aside0 (w.cell? (ad.add (k * 3)) = some va) := ⟨by
    rw [had, add_plain]
    show w.cell? ⟨g, k * 3, none⟩ = _
    rw [Nat.mul_comm]; exact y0⟩
  have HGT := Aside0.mk hbk
  have HBG := Aside0.mk hBg
  rw [← had] at k4
  have K4A := Aside0.mk k4
  clear hwr ho he e0 e1 ha hc hbk y0 y1 had hgl k4 hkb hll
  simp only [List.append_toArray, List.cons_append, List.nil_append]
  have HD : Aside0 (Below w.heap.size w w.drew) := ⟨(Below.refl _ _).drew⟩
  have HC : Aside0 (∀ W, Below w.heap.size w W → W.cell? ⟨gq, 2, none⟩ = some (.slice (some ad) ws.length cap) ∧ W.cell? ⟨kb, 0, none⟩ = some (.int .i64 k) ∧ W.cell? (ad.add (k * 3)) = some va) := ⟨fun W hW => ⟨(blk_cell (blk_below K4A.out hW) 2).trans rfl, (blk_cell (blk_below HKB.out (HB.out.trans (hW.mono HB.out.size))) 0).trans rfl, pw_cell_below hW HY.out⟩⟩
  go_enter Try.func44, Try.ntmps44
  go_upto_region 0 with fail
  refine start_ (n := 19) (S := fun w' => w'.cell? ⟨gq, 2, none⟩ = some (.slice (some ad) ws.length cap) ∧ w'.cell? ⟨kb, 0, none⟩ = some (.int .i64 k) ∧ w'.cell? (ad.add (k * 3)) = some va) (ds := [18]) #[false, false, false, false, false, false, false, false, false, false, false, false, false, false, false, false, false, false, false] (by kernel_rfl) rfl rfl (HC.out _ HD.out) (fun hHeld => ?_)
  refine pure_ (i := 0) (N := some 3) (v := ?_) (a' := ?_) #[true, false, false, false, false, false, false, false, false, false, false, false, false, false, false, false, false, false, false] rfl rfl (by kernel_rfl) (fun _ _ _ h => h) (Or.inl ⟨by rfl, ?_⟩) ?_ ?_
  rotate_left
  · intro w'
    go_simp
    with_reducible rfl
  rotate_left
  · simp only [Act.put, List.setIfInBounds_toArray, List.set_cons_zero, List.set_cons_succ, i64_w, i32_w]
    rfl
  refine pure_ (i := 1) (N := some 4) (v := ?_) (a' := ?_) #[true, true, false, false, false, false, false, false, false, false, false, false, false, false, false, false, false, false, false] rfl rfl (by kernel_rfl) (fun _ _ _ h => h) (Or.inl ⟨by rfl, ?_⟩) ?_ ?_
  rotate_left
  · intro w'
    go_simp
    with_reducible rfl
  rotate_left
  · simp only [Act.put, List.setIfInBounds_toArray, List.set_cons_zero, List.set_cons_succ, i64_w, i32_w]
    rfl
  refine pure_ (i := 2) (N := some 5) (v := ?_) (a' := ?_) #[true, true, true, false, false, false, false, false, false, false, false, false, false, false, false, false, false, false, false] rfl rfl (by kernel_rfl) (fun _ _ _ h => h) (Or.inl ⟨by rfl, ?_⟩) ?_ ?_
  rotate_left
  · intro w'
    go_simp
    with_reducible rfl
  rotate_left
  · simp only [Act.put, List.setIfInBounds_toArray, List.set_cons_zero, List.set_cons_succ, i64_w, i32_w]
    rfl
  refine pure_ (i := 5) (N := some 8) (v := ?_) (a' := ?_) #[true, true, true, false, false, true, false, false, false, false, false, false, false, false, false, false, false, false, false] rfl rfl (by kernel_rfl) (fun _ _ _ h => h) (Or.inl ⟨by rfl, ?_⟩) ?_ ?_
  rotate_left
  · intro w'
    go_simp
    with_reducible rfl
  rotate_left
  · simp only [Act.put, List.setIfInBounds_toArray, List.set_cons_zero, List.set_cons_succ, i64_w, i32_w]
    rfl
  refine pure_ (i := 6) (N := some 9) (v := ?_) (a' := ?_) #[true, true, true, false, false, true, true, false, false, false, false, false, false, false, false, false, false, false, false] rfl rfl (by kernel_rfl) (fun _ _ _ h => h) (Or.inl ⟨by rfl, ?_⟩) ?_ ?_
  rotate_left
  · intro w'
    go_simp
    with_reducible rfl
  rotate_left
  · simp only [Act.put, List.setIfInBounds_toArray, List.set_cons_zero, List.set_cons_succ, i64_w, i32_w]
    rfl
  refine pure_ (i := 7) (N := some 10) (v := ?_) (a' := ?_) #[true, true, true, false, false, true, true, true, false, false, false, false, false, false, false, false, false, false, false] rfl rfl (by kernel_rfl) (fun _ _ _ h => h) (Or.inl ⟨by rfl, ?_⟩) ?_ ?_
  rotate_left
  · intro w'
    go_simp
    with_reducible rfl
  rotate_left
  · simp only [Act.put, List.setIfInBounds_toArray, List.set_cons_zero, List.set_cons_succ, i64_w, i32_w]
    rfl
  refine take_ (i := 3) (N := some 6) (v := ?_) (a' := ?_) #[true, true, true, true, false, true, true, true, false, false, false, false, false, false, false, false, false, false, false] rfl rfl (by kernel_rfl) (fun _ _ _ h => h) (Or.inl ⟨by rfl, ?_⟩) hHeld ?_ ?_
  rotate_left
  · rintro w' ⟨s0, s1, s2⟩
    go_simp
    with_reducible rfl
  rotate_left
  · simp only [Act.put, List.setIfInBounds_toArray, List.set_cons_zero, List.set_cons_succ, i64_w, i32_w]
    rfl
  refine take_ (i := 4) (N := some 7) (v := ?_) (a' := ?_) #[true, true, true, true, true, true, true, true, false, false, false, false, false, false, false, false, false, false, false] rfl rfl (by kernel_rfl) (fun _ _ _ h => h) (Or.inl ⟨by rfl, ?_⟩) hHeld ?_ ?_
  rotate_left
  · rintro w' ⟨s0, s1, s2⟩
    go_simp
    with_reducible rfl
  rotate_left
  · simp only [Act.put, List.setIfInBounds_toArray, List.set_cons_zero, List.set_cons_succ, i64_w, i32_w]
    rfl
  refine take_ (i := 8) (N := some 11) (v := ?_) (a' := ?_) #[true, true, true, true, true, true, true, true, true, false, false, false, false, false, false, false, false, false, false] rfl rfl (by kernel_rfl) (fun _ _ _ h => h) (Or.inl ⟨by rfl, ?_⟩) hHeld ?_ ?_
  rotate_left
  · rintro w' ⟨s0, s1, s2⟩
    go_simp
    with_reducible rfl
  rotate_left
  · simp only [Act.put, List.setIfInBounds_toArray, List.set_cons_zero, List.set_cons_succ, i64_w, i32_w]
    rfl
  refine take_ (i := 9) (N := some 12) (v := ?_) (a' := ?_) #[true, true, true, true, true, true, true, true, true, true, false, false, false, false, false, false, false, false, false] rfl rfl (by kernel_rfl) (fun _ _ _ h => h) (Or.inl ⟨by rfl, ?_⟩) hHeld ?_ ?_
  rotate_left
  · rintro w' ⟨s0, s1, s2⟩
    go_simp
    with_reducible rfl
  rotate_left
  · simp only [Act.put, List.setIfInBounds_toArray, List.set_cons_zero, List.set_cons_succ, i64_w, i32_w]
    rfl
  refine pure_ (i := 10) (N := some 13) (v := ?_) (a' := ?_) #[true, true, true, true, true, true, true, true, true, true, true, false, false, false, false, false, false, false, false] rfl rfl (by kernel_rfl) (fun _ _ _ h => h) (Or.inl ⟨by rfl, ?_⟩) ?_ ?_
  rotate_left
  · intro w'
    go_simp
    with_reducible rfl
  rotate_left
  · simp only [Act.put, List.setIfInBounds_toArray, List.set_cons_zero, List.set_cons_succ, i64_w, i32_w]
    rfl
  refine pure_ (i := 11) (N := some 14) (v := ?_) (a' := ?_) #[true, true, true, true, true, true, true, true, true, true, true, true, false, false, false, false, false, false, false] rfl rfl (by kernel_rfl) (fun _ _ _ h => h) (Or.inl ⟨by rfl, ?_⟩) ?_ ?_
  rotate_left
  · intro w'
    go_simp
    with_reducible rfl
  rotate_left
  · simp only [Act.put, List.setIfInBounds_toArray, List.set_cons_zero, List.set_cons_succ, i64_w, i32_w]
    rfl
  refine take_ (i := 12) (N := some 15) (v := ?_) (a' := ?_) #[true, true, true, true, true, true, true, true, true, true, true, true, true, false, false, false, false, false, false] rfl rfl (by kernel_rfl) (fun _ _ _ h => h) (Or.inl ⟨by rfl, ?_⟩) hHeld ?_ ?_
  rotate_left
  · rintro w' ⟨s0, s1, s2⟩
    go_simp
    with_reducible rfl
  rotate_left
  · simp only [Act.put, List.setIfInBounds_toArray, List.set_cons_zero, List.set_cons_succ, i64_w, i32_w]
    rfl
  refine take_ (i := 13) (N := some 16) (v := ?_) (a' := ?_) #[true, true, true, true, true, true, true, true, true, true, true, true, true, true, false, false, false, false, false] rfl rfl (by kernel_rfl) (fun _ _ _ h => h) (Or.inl ⟨by rfl, ?_⟩) hHeld ?_ ?_
  rotate_left
  · rintro w' ⟨s0, s1, s2⟩
    go_simp
    with_reducible rfl
  rotate_left
  · simp only [Act.put, List.setIfInBounds_toArray, List.set_cons_zero, List.set_cons_succ, i64_w, i32_w]
    rfl
  refine one_ (i := 14) (N := some 17) #[true, true, true, true, true, true, true, true, true, true, true, true, true, true, true, false, false, false, false] rfl rfl (by kernel_rfl) (by decide) (fun K hK => ?_)
  refine value_ (w1 := ?_) (v := ?_) (by rfl) rfl ?_ ?_
  rotate_left 2
  · go_simp
    constructor
    · rfl
    · rfl
  have hb : Below w.drew.heap.size w.drew (w.drew.alloc (Obj.cells #[.int .i64 (k : Int)] 3)) := (Below.refl _ w.drew).alloc (Nat.le_refl _) _
  have HD2 := Aside0.mk (HD.out.trans (hb.mono HD.out.size))
  clear hb
  refine hK.out _ _ (HC.out _ HD2.out) (fun hHeld => ?_)
  clear hK K
  refine norm_ (a' := ?_) ?_ ?_
  rotate_left
  · show Act.put _ (some 17) _ = _
    simp only [Act.put, List.setIfInBounds_toArray, List.set_cons_zero, List.set_cons_succ, i64_w, i32_w]
    rfl
  refine one_ (i := 15) (N := some 18) #[true, true, true, true, true, true, true, true, true, true, true, true, true, true, true, true, false, false, false] rfl rfl (by kernel_rfl) (by decide) (fun K hK => ?_)
  refine Kd.R_append_step (Kd.int .i64) (w0 := w.drew) B (by rfl) (.tmp 15) (.tmp 17) 25 3 (.int .i64 0) 8 rfl Try.underlying25 info3 rfl (by decide) (by decide) va ws[k].f0 (k : Int) [.int .i64 (k : Int)] (fun _ => True) (fun _ => False) (by rfl) (by rfl) rfl (fun _ h => h.elim) (fun _ _ => trivial) (Kd.R_drew HVC.out) (Below.refl _ _) HBS.out (by have := HLL.out; omega) ?_
  intro v9 w9 hr9 hb9 hg9 hat9
  obtain ⟨A9, c9, rfl⟩ := Kd.R_slice hr9
  rw [List.length_append, List.length_singleton] at hr9 hat9
  have HR9 := Aside0.mk hr9
  have HG9 : Aside0 (w.grownBy w9 va.ownBlock) := ⟨World.grownBy.trans (grown_of_below (Below.refl _ w).drew _) hg9⟩
  have HAT := Aside0.mk hat9
  have HNE : Aside0 (∀ k, va.ownBlock = some k → B ≤ k) := ⟨Kd.R_base HVC.out⟩
  have K19 := Aside0.mk (blk_grown K4A.out HG9.out (fun e => by have h := HNE.out _ e.symm; have := HGB.out; omega))
  have HGR : Aside0 (w9.heap[g]? = w.heap[g]?) := ⟨HG9.out.block g (by obtain ⟨cur, hcur⟩ := HGT.out; exact blk_lt hcur) (fun e => inner_ne HO.out HVC.out _ e.symm rfl)⟩
  have HB9 : Aside0 (Below w0.heap.size w0 w9) := ⟨HB.out.trans ((pw_below_grown (Below.refl gq w) _ (by have := HBS.out; have := HGB.out; omega) HG9.out (fun k hk => by have := HNE.out k hk; have := HGB.out; omega)).mono HGQ.out)⟩
  have HY9 : Aside0 (w9.cell? (ad.add (k * 3)) = some va) := ⟨by
    rw [← HY.out]
    refine World.cell?_of_block (w := w) (w' := w9) ?_
    rw [HAD.out, add_plain]
    exact HGR.out⟩
  clear hr9 hb9 hg9 hat9
  refine hK.out _ _ (⟨(blk_cell K19.out 2).trans rfl, (blk_cell (blk_below HKB.out HB9.out) 0).trans rfl, HY9.out⟩) (fun hHeld => ?_)
  clear hK K
  refine norm_ (a' := ?_) ?_ ?_
  rotate_left
  · show Act.put _ (some 18) _ = _
    simp only [Act.put, List.setIfInBounds_toArray, List.set_cons_zero, List.set_cons_succ, i64_w, i32_w]
    rfl
  refine pure_ (i := 16) (N := some 19) (v := ?_) (a' := ?_) #[true, true, true, true, true, true, true, true, true, true, true, true, true, true, true, true, true, false, false] rfl rfl (by kernel_rfl) (fun _ _ _ h => h) (Or.inl ⟨by rfl, ?_⟩) ?_ ?_
  rotate_left
  · intro w'
    go_simp
    with_reducible rfl
  rotate_left
  · simp only [Act.put, List.setIfInBounds_toArray, List.set_cons_zero, List.set_cons_succ, i64_w, i32_w]
    rfl
  refine pure_ (i := 17) (N := some 20) (v := ?_) (a' := ?_) #[true, true, true, true, true, true, true, true, true, true, true, true, true, true, true, true, true, true, false] rfl rfl (by kernel_rfl) (fun _ _ _ h => h) (Or.inl ⟨by rfl, ?_⟩) ?_ ?_
  rotate_left
  · intro w'
    go_simp
    with_reducible rfl
  rotate_left
  · simp only [Act.put, List.setIfInBounds_toArray, List.set_cons_zero, List.set_cons_succ, i64_w, i32_w]
    rfl
  refine last_ (i := 18) (N := none) #[true, true, true, true, true, true, true, true, true, true, true, true, true, true, true, true, true, true, true] rfl rfl (by kernel_rfl) (by decide) (fun K hK => ?_)
  have hy9 := HY9.out
  have HF9 : w9.frozen? (ad.add (k * 3)) = false := by
    obtain ⟨cur, hcur⟩ := HGT.out
    rw [HAD.out, add_plain]
    exact blk_frozen (HGR.out.trans hcur) _
  refine skip_ (w1 := ?_) (by rfl) rfl ?_ ?_
  rotate_left
  · go_simp
    rfl
  clear hy9 HF9
  refine hK.out _ _ ?_
  clear hK K
  refine done_ (by kernel_rfl) ?_
  go_end0
  obtain ⟨f', hput⟩ := Wr.put0 HO.out HE.out HQK.out H0.out HG9.out HR9.out HAT.out
  have hadr : ((ad.add (k * 3)) : Addr) = ⟨g, 3 * k + 0, none⟩ := by rw [HAD.out, add_plain]; show (⟨g, k * 3, none⟩ : Addr) = _; rw [Nat.mul_comm]; rfl
  rw [hadr]
  have hbg := HBG.out
  have hgb := HGB.out
  refine ⟨rfl, ⟨_, f', blk_far (p := ⟨g, 3 * k + 0, none⟩) (by rw [HAD.out] at K19; exact K19.out) (by show gq ≠ g; omega) (.slice A9 (ws[k].f0.length + 1) c9), hput, hgb, by have h1 := HG9.out.size; have h2 := HBS.out; simp [World.setCell]; omega⟩, (pw_below_grown (Below.refl gq w) _ (by have := HBS.out; omega) HG9.out (fun k hk => by have := HNE.out k hk; omega)).setCell (p := ⟨g, 3 * k + 0, none⟩) (by show gq ≤ g; omega) (.slice A9 (ws[k].f0.length + 1) c9)⟩
set_option maxHeartbeats 4000000 in
set_option maxRecDepth 100000 in
theorem chg42 (w0 : World) (b d : Int) (ws : List S51) (k kb : Nat) (hk : k < ws.length) (hwl : ws.length ≤ 1000000) (hll : ws[k].f0.length ≤ 1000000) (hkb : w0.heap[kb]? = some (.cells #[.int .i64 k] 3 (0, 0))) (bp : Nat) (A : Option Addr) (c : Nat) (hp : w0.heap[bp]? = some (.cells #[.int .i64 b, .int .i64 d, .slice A ws.length c] 43 (0, 0))) : Chg w0 42 #[.pointer (some ⟨kb, 0, none⟩), .pointer (some ⟨bp, 0, none⟩)] b d ws b (ws.set k ⟨ws[k].f0 ++ [(ws.length : Int)], ws[k].f1, ws[k].f2⟩) := by
  intro gq B w hB hgq ⟨v, f, k4, hwr, hgb, hbs⟩
  have HB := Aside0.mk hB
  have K4 := Aside0.mk k4
  have HGB := Aside0.mk hgb
  have HBS := Aside0.mk hbs
  have HKB := Aside0.mk hkb
  have HGQ := Aside0.mk hgq
  obtain ⟨g, cap, cells, va, vc, rfl, hBg, hgl, ho, he, e0, e1, ha, hc, hbk, y0, y1⟩ := hwr.at hk
  have HQK : Aside0 (ws[k]? = some ws[k]) := ⟨List.getElem?_eq_getElem hk⟩
  have hk' : (k : Int) < (ws.length : Int) := by omega
  have HLL := Aside0.mk hll
  have hmx : ws.length ≤ 1000000 := hwl
  obtain ⟨ad, had⟩ : ∃ ad : Addr, ad = ⟨g, 0, none⟩ := ⟨_, rfl⟩
  have HAD := Aside0.mk had
  have HO := Aside0.mk ho
  have HE := Aside0.mk he
  have H0 := Aside0.mk e0
  have HVC := Aside0.mk ha
  have HY : Aside0 (w.cell? (ad.add (k * 3)) = some va) := ⟨by
    rw [had, add_plain]
    show w.cell? ⟨g, k * 3, none⟩ = _
    rw [Nat.mul_comm]; exact y0⟩
  have HGT := Aside0.mk hbk
  have HBG := Aside0.mk hBg
  rw [← had] at k4
  have K4A := Aside0.mk k4
  clear hwr ho he e0 e1 ha hc hbk y0 y1 had hgl k4 hkb hll
  simp only [List.append_toArray, List.cons_append, List.nil_append]
  have HPP := Aside0.mk hp
  clear hp
  have HD : Aside0 (Below w.heap.size w w.drew) := ⟨(Below.refl _ _).drew⟩
  have HC : Aside0 (∀ W, Below w.heap.size w W → W.cell? ⟨gq, 2, none⟩ = some (.slice (some ad) ws.length cap) ∧ W.cell? ⟨kb, 0, none⟩ = some (.int .i64 k) ∧ W.cell? (ad.add (k * 3)) = some va ∧ W.cell? ⟨bp, 2, none⟩ = some (.slice A ws.length c)) := ⟨fun W hW => ⟨(blk_cell (blk_below K4A.out hW) 2).trans rfl, (blk_cell (blk_below HKB.out (HB.out.trans (hW.mono HB.out.size))) 0).trans rfl, pw_cell_below hW HY.out, (blk_cell (blk_below HPP.out (HB.out.trans (hW.mono HB.out.size))) 2).trans rfl⟩⟩
  go_enter Try.func42, Try.ntmps42
  go_upto_region 0 with fail
  refine start_ (n := 21) (S := fun w' => w'.cell? ⟨gq, 2, none⟩ = some (.slice (some ad) ws.length cap) ∧ w'.cell? ⟨kb, 0, none⟩ = some (.int .i64 k) ∧ w'.cell? (ad.add (k * 3)) = some va ∧ w'.cell? ⟨bp, 2, none⟩ = some (.slice A ws.length c)) (ds := [20]) #[false, false, false, false, false, false, false, false, false, false, false, false, false, false, false, false, false, false, false, false, false] (by kernel_rfl) rfl rfl (HC.out _ HD.out) (fun hHeld => ?_)
  refine pure_ (i := 0) (N := some 4) (v := ?_) (a' := ?_) #[true, false, false, false, false, false, false, false, false, false, false, false, false, false, false, false, false, false, false, false, false] rfl rfl (by kernel_rfl) (fun _ _ _ h => h) (Or.inl ⟨by rfl, ?_⟩) ?_ ?_
  rotate_left
  · intro w'
    go_simp
    with_reducible rfl
  rotate_left
  · simp only [Act.put, List.setIfInBounds_toArray, List.set_cons_zero, List.set_cons_succ, i64_w, i32_w]
    rfl
  refine pure_ (i := 1) (N := some 5) (v := ?_) (a' := ?_) #[true, true, false, false, false, false, false, false, false, false, false, false, false, false, false, false, false, false, false, false, false] rfl rfl (by kernel_rfl) (fun _ _ _ h => h) (Or.inl ⟨by rfl, ?_⟩) ?_ ?_
  rotate_left
  · intro w'
    go_simp
    with_reducible rfl
  rotate_left
  · simp only [Act.put, List.setIfInBounds_toArray, List.set_cons_zero, List.set_cons_succ, i64_w, i32_w]
    rfl
  refine pure_ (i := 2) (N := some 6) (v := ?_) (a' := ?_) #[true, true, true, false, false, false, false, false, false, false, false, false, false, false, false, false, false, false, false, false, false] rfl rfl (by kernel_rfl) (fun _ _ _ h => h) (Or.inl ⟨by rfl, ?_⟩) ?_ ?_
  rotate_left
  · intro w'
    go_simp
    with_reducible rfl
  rotate_left
  · simp only [Act.put, List.setIfInBounds_toArray, List.set_cons_zero, List.set_cons_succ, i64_w, i32_w]
    rfl
  refine pure_ (i := 5) (N := some 9) (v := ?_) (a' := ?_) #[true, true, true, false, false, true, false, false, false, false, false, false, false, false, false, false, false, false, false, false, false] rfl rfl (by kernel_rfl) (fun _ _ _ h => h) (Or.inl ⟨by rfl, ?_⟩) ?_ ?_
  rotate_left
  · intro w'
    go_simp
    with_reducible rfl
  rotate_left
  · simp only [Act.put, List.setIfInBounds_toArray, List.set_cons_zero, List.set_cons_succ, i64_w, i32_w]
    rfl
  refine pure_ (i := 6) (N := some 10) (v := ?_) (a' := ?_) #[true, true, true, false, false, true, true, false, false, false, false, false, false, false, false, false, false, false, false, false, false] rfl rfl (by kernel_rfl) (fun _ _ _ h => h) (Or.inl ⟨by rfl, ?_⟩) ?_ ?_
  rotate_left
  · intro w'
    go_simp
    with_reducible rfl
  rotate_left
  · simp only [Act.put, List.setIfInBounds_toArray, List.set_cons_zero, List.set_cons_succ, i64_w, i32_w]
    rfl
  refine pure_ (i := 7) (N := some 11) (v := ?_) (a' := ?_) #[true, true, true, false, false, true, true, true, false, false, false, false, false, false, false, false, false, false, false, false, false] rfl rfl (by kernel_rfl) (fun _ _ _ h => h) (Or.inl ⟨by rfl, ?_⟩) ?_ ?_
  rotate_left
  · intro w'
    go_simp
    with_reducible rfl
  rotate_left
  · simp only [Act.put, List.setIfInBounds_toArray, List.set_cons_zero, List.set_cons_succ, i64_w, i32_w]
    rfl
  refine pure_ (i := 13) (N := some 17) (v := ?_) (a' := ?_) #[true, true, true, false, false, true, true, true, false, false, false, false, false, true, false, false, false, false, false, false, false] rfl rfl (by kernel_rfl) (fun _ _ _ h => h) (Or.inl ⟨by rfl, ?_⟩) ?_ ?_
  rotate_left
  · intro w'
    go_simp
    with_reducible rfl
  rotate_left
  · simp only [Act.put, List.setIfInBounds_toArray, List.set_cons_zero, List.set_cons_succ, i64_w, i32_w]
    rfl
  refine take_ (i := 3) (N := some 7) (v := ?_) (a' := ?_) #[true, true, true, true, false, true, true, true, false, false, false, false, false, true, false, false, false, false, false, false, false] rfl rfl (by kernel_rfl) (fun _ _ _ h => h) (Or.inl ⟨by rfl, ?_⟩) hHeld ?_ ?_
  rotate_left
  · rintro w' ⟨s0, s1, s2, s3⟩
    go_simp
    with_reducible rfl
  rotate_left
  · simp only [Act.put, List.setIfInBounds_toArray, List.set_cons_zero, List.set_cons_succ, i64_w, i32_w]
    rfl
  refine take_ (i := 4) (N := some 8) (v := ?_) (a' := ?_) #[true, true, true, true, true, true, true, true, false, false, false, false, false, true, false, false, false, false, false, false, false] rfl rfl (by kernel_rfl) (fun _ _ _ h => h) (Or.inl ⟨by rfl, ?_⟩) hHeld ?_ ?_
  rotate_left
  · rintro w' ⟨s0, s1, s2, s3⟩
    go_simp
    with_reducible rfl
  rotate_left
  · simp only [Act.put, List.setIfInBounds_toArray, List.set_cons_zero, List.set_cons_succ, i64_w, i32_w]
    rfl
  refine take_ (i := 8) (N := some 12) (v := ?_) (a' := ?_) #[true, true, true, true, true, true, true, true, true, false, false, false, false, true, false, false, false, false, false, false, false] rfl rfl (by kernel_rfl) (fun _ _ _ h => h) (Or.inl ⟨by rfl, ?_⟩) hHeld ?_ ?_
  rotate_left
  · rintro w' ⟨s0, s1, s2, s3⟩
    go_simp
    with_reducible rfl
  rotate_left
  · simp only [Act.put, List.setIfInBounds_toArray, List.set_cons_zero, List.set_cons_succ, i64_w, i32_w]
    rfl
  refine take_ (i := 9) (N := some 13) (v := ?_) (a' := ?_) #[true, true, true, true, true, true, true, true, true, true, false, false, false, true, false, false, false, false, false, false, false] rfl rfl (by kernel_rfl) (fun _ _ _ h => h) (Or.inl ⟨by rfl, ?_⟩) hHeld ?_ ?_
  rotate_left
  · rintro w' ⟨s0, s1, s2, s3⟩
    go_simp
    with_reducible rfl
  rotate_left
  · simp only [Act.put, List.setIfInBounds_toArray, List.set_cons_zero, List.set_cons_succ, i64_w, i32_w]
    rfl
  refine pure_ (i := 10) (N := some 14) (v := ?_) (a' := ?_) #[true, true, true, true, true, true, true, true, true, true, true, false, false, true, false, false, false, false, false, false, false] rfl rfl (by kernel_rfl) (fun _ _ _ h => h) (Or.inl ⟨by rfl, ?_⟩) ?_ ?_
  rotate_left
  · intro w'
    go_simp
    with_reducible rfl
  rotate_left
  · simp only [Act.put, List.setIfInBounds_toArray, List.set_cons_zero, List.set_cons_succ, i64_w, i32_w]
    rfl
  refine pure_ (i := 11) (N := some 15) (v := ?_) (a' := ?_) #[true, true, true, true, true, true, true, true, true, true, true, true, false, true, false, false, false, false, false, false, false] rfl rfl (by kernel_rfl) (fun _ _ _ h => h) (Or.inl ⟨by rfl, ?_⟩) ?_ ?_
  rotate_left
  · intro w'
    go_simp
    with_reducible rfl
  rotate_left
  · simp only [Act.put, List.setIfInBounds_toArray, List.set_cons_zero, List.set_cons_succ, i64_w, i32_w]
    rfl
  refine take_ (i := 12) (N := some 16) (v := ?_) (a' := ?_) #[true, true, true, true, true, true, true, true, true, true, true, true, true, true, false, false, false, false, false, false, false] rfl rfl (by kernel_rfl) (fun _ _ _ h => h) (Or.inl ⟨by rfl, ?_⟩) hHeld ?_ ?_
  rotate_left
  · rintro w' ⟨s0, s1, s2, s3⟩
    go_simp
    with_reducible rfl
  rotate_left
  · simp only [Act.put, List.setIfInBounds_toArray, List.set_cons_zero, List.set_cons_succ, i64_w, i32_w]
    rfl
  refine take_ (i := 14) (N := some 18) (v := ?_) (a' := ?_) #[true, true, true, true, true, true, true, true, true, true, true, true, true, true, true, false, false, false, false, false, false] rfl rfl (by kernel_rfl) (fun _ _ _ h => h) (Or.inl ⟨by rfl, ?_⟩) hHeld ?_ ?_
  rotate_left
  · rintro w' ⟨s0, s1, s2, s3⟩
    go_simp
    with_reducible rfl
  rotate_left
  · simp only [Act.put, List.setIfInBounds_toArray, List.set_cons_zero, List.set_cons_succ, i64_w, i32_w]
    rfl
  refine pure_ (i := 15) (N := some 19) (v := ?_) (a' := ?_) #[true, true, true, true, true, true, true, true, true, true, true, true, true, true, true, true, false, false, false, false, false] rfl rfl (by kernel_rfl) (fun _ _ _ h => h) (Or.inl ⟨by rfl, ?_⟩) ?_ ?_
  rotate_left
  · intro w'
    go_simp
    with_reducible rfl
  rotate_left
  · simp only [Act.put, List.setIfInBounds_toArray, List.set_cons_zero, List.set_cons_succ, i64_w, i32_w]
    rfl
  refine one_ (i := 16) (N := some 20) #[true, true, true, true, true, true, true, true, true, true, true, true, true, true, true, true, true, false, false, false, false] rfl rfl (by kernel_rfl) (by decide) (fun K hK => ?_)
  refine value_ (w1 := ?_) (v := ?_) (by rfl) rfl ?_ ?_
  rotate_left 2
  · go_simp
    constructor
    · rfl
    · rfl
  have hb : Below w.drew.heap.size w.drew (w.drew.alloc (Obj.cells #[.int .i64 (ws.length : Int)] 3)) := (Below.refl _ w.drew).alloc (Nat.le_refl _) _
  have HD2 := Aside0.mk (HD.out.trans (hb.mono HD.out.size))
  clear hb
  refine hK.out _ _ (HC.out _ HD2.out) (fun hHeld => ?_)
  clear hK K
  refine norm_ (a' := ?_) ?_ ?_
  rotate_left
  · show Act.put _ (some 20) _ = _
    simp only [Act.put, List.setIfInBounds_toArray, List.set_cons_zero, List.set_cons_succ, i64_w, i32_w]
    rfl
  refine one_ (i := 17) (N := some 21) #[true, true, true, true, true, true, true, true, true, true, true, true, true, true, true, true, true, true, false, false, false] rfl rfl (by kernel_rfl) (by decide) (fun K hK => ?_)
  refine Kd.R_append_step (Kd.int .i64) (w0 := w.drew) B (by rfl) (.tmp 16) (.tmp 20) 25 3 (.int .i64 0) 8 rfl Try.underlying25 info3 rfl (by decide) (by decide) va ws[k].f0 (ws.length : Int) [.int .i64 (ws.length : Int)] (fun _ => True) (fun _ => False) (by rfl) (by rfl) rfl (fun _ h => h.elim) (fun _ _ => trivial) (Kd.R_drew HVC.out) (Below.refl _ _) HBS.out (by have := HLL.out; omega) ?_
  intro v9 w9 hr9 hb9 hg9 hat9
  obtain ⟨A9, c9, rfl⟩ := Kd.R_slice hr9
  rw [List.length_append, List.length_singleton] at hr9 hat9
  have HR9 := Aside0.mk hr9
  have HG9 : Aside0 (w.grownBy w9 va.ownBlock) := ⟨World.grownBy.trans (grown_of_below (Below.refl _ w).drew _) hg9⟩
  have HAT := Aside0.mk hat9
  have HNE : Aside0 (∀ k, va.ownBlock = some k → B ≤ k) := ⟨Kd.R_base HVC.out⟩
  have K19 := Aside0.mk (blk_grown K4A.out HG9.out (fun e => by have h := HNE.out _ e.symm; have := HGB.out; omega))
  have HGR : Aside0 (w9.heap[g]? = w.heap[g]?) := ⟨HG9.out.block g (by obtain ⟨cur, hcur⟩ := HGT.out; exact blk_lt hcur) (fun e => inner_ne HO.out HVC.out _ e.symm rfl)⟩
  have HB9 : Aside0 (Below w0.heap.size w0 w9) := ⟨HB.out.trans ((pw_below_grown (Below.refl gq w) _ (by have := HBS.out; have := HGB.out; omega) HG9.out (fun k hk => by have := HNE.out k hk; have := HGB.out; omega)).mono HGQ.out)⟩
  have HY9 : Aside0 (w9.cell? (ad.add (k * 3)) = some va) := ⟨by
    rw [← HY.out]
    refine World.cell?_of_block (w := w) (w' := w9) ?_
    rw [HAD.out, add_plain]
    exact HGR.out⟩
  clear hr9 hb9 hg9 hat9
  refine hK.out _ _ (⟨(blk_cell K19.out 2).trans rfl, (blk_cell (blk_below HKB.out HB9.out) 0).trans rfl, HY9.out, (blk_cell (blk_below HPP.out HB9.out) 2).trans rfl⟩) (fun hHeld => ?_)
  clear hK K
  refine norm_ (a' := ?_) ?_ ?_
  rotate_left
  · show Act.put _ (some 21) _ = _
    simp only [Act.put, List.setIfInBounds_toArray, List.set_cons_zero, List.set_cons_succ, i64_w, i32_w]
    rfl
  refine pure_ (i := 18) (N := some 22) (v := ?_) (a' := ?_) #[true, true, true, true, true, true, true, true, true, true, true, true, true, true, true, true, true, true, true, false, false] rfl rfl (by kernel_rfl) (fun _ _ _ h => h) (Or.inl ⟨by rfl, ?_⟩) ?_ ?_
  rotate_left
  · intro w'
    go_simp
    with_reducible rfl
  rotate_left
  · simp only [Act.put, List.setIfInBounds_toArray, List.set_cons_zero, List.set_cons_succ, i64_w, i32_w]
    rfl
  refine pure_ (i := 19) (N := some 23) (v := ?_) (a' := ?_) #[true, true, true, true, true, true, true, true, true, true, true, true, true, true, true, true, true, true, true, true, false] rfl rfl (by kernel_rfl) (fun _ _ _ h => h) (Or.inl ⟨by rfl, ?_⟩) ?_ ?_
  rotate_left
  · intro w'
    go_simp
    with_reducible rfl
  rotate_left
  · simp only [Act.put, List.setIfInBounds_toArray, List.set_cons_zero, List.set_cons_succ, i64_w, i32_w]
    rfl
  refine last_ (i := 20) (N := none) #[true, true, true, true, true, true, true, true, true, true, true, true, true, true, true, true, true, true, true, true, true] rfl rfl (by kernel_rfl) (by decide) (fun K hK => ?_)
  have hy9 := HY9.out
  have HF9 : w9.frozen? (ad.add (k * 3)) = false := by
    obtain ⟨cur, hcur⟩ := HGT.out
    rw [HAD.out, add_plain]
    exact blk_frozen (HGR.out.trans hcur) _
  refine skip_ (w1 := ?_) (by rfl) rfl ?_ ?_
  rotate_left
  · go_simp
    rfl
  clear hy9 HF9
  refine hK.out _ _ ?_
  clear hK K
  refine done_ (by kernel_rfl) ?_
  go_end0
  obtain ⟨f', hput⟩ := Wr.put0 HO.out HE.out HQK.out H0.out HG9.out HR9.out HAT.out
  have hadr : ((ad.add (k * 3)) : Addr) = ⟨g, 3 * k + 0, none⟩ := by rw [HAD.out, add_plain]; show (⟨g, k * 3, none⟩ : Addr) = _; rw [Nat.mul_comm]; rfl
  rw [hadr]
  have hbg := HBG.out
  have hgb := HGB.out
  refine ⟨rfl, ⟨_, f', blk_far (p := ⟨g, 3 * k + 0, none⟩) (by rw [HAD.out] at K19; exact K19.out) (by show gq ≠ g; omega) (.slice A9 (ws[k].f0.length + 1) c9), hput, hgb, by have h1 := HG9.out.size; have h2 := HBS.out; simp [World.setCell]; omega⟩, (pw_below_grown (Below.refl gq w) _ (by have := HBS.out; omega) HG9.out (fun k hk => by have := HNE.out k hk; omega)).setCell (p := ⟨g, 3 * k + 0, none⟩) (by show gq ≤ g; omega) (.slice A9 (ws[k].f0.length + 1) c9)⟩
set_option maxHeartbeats 4000000 in
set_option maxRecDepth 100000 in
theorem chg41 (w0 : World) (b d : Int) (ws : List S51) (k kb : Nat) (hk : k < ws.length) (hwl : ws.length ≤ 1000000) (hll : ws[k].f1.length ≤ 1000000) (hkb : w0.heap[kb]? = some (.cells #[.int .i64 k] 3 (0, 0))) (bp : Nat) (A : Option Addr) (c : Nat) (hp : w0.heap[bp]? = some (.cells #[.int .i64 b, .int .i64 d, .slice A ws.length c] 43 (0, 0))) (hC : k51.C w0 A ws.length ws) (h0 : 0 < ws.length) (h1 : 0 < ws[0].f1.length) : Chg w0 41 #[.pointer (some ⟨kb, 0, none⟩), .pointer (some ⟨bp, 0, none⟩)] b d ws b (ws.set k ⟨ws[k].f0, ws[k].f1 ++ [ws[0].f1[0]], ws[k].f2⟩) := by
  intro gq B w hB hgq ⟨v, f, k4, hwr, hgb, hbs⟩
  have HB := Aside0.mk hB
  have K4 := Aside0.mk k4
  have HGB := Aside0.mk hgb
  have HBS := Aside0.mk hbs
  have HKB := Aside0.mk hkb
  have HGQ := Aside0.mk hgq
  obtain ⟨g, cap, cells, va, vc, rfl, hBg, hgl, ho, he, e0, e1, ha, hc, hbk, y0, y1⟩ := hwr.at hk
  have HQK : Aside0 (ws[k]? = some ws[k]) := ⟨List.getElem?_eq_getElem hk⟩
  have hk' : (k : Int) < (ws.length : Int) := by omega
  have HLL := Aside0.mk hll
  have hmx : ws.length ≤ 1000000 := hwl
  obtain ⟨ad, had⟩ : ∃ ad : Addr, ad = ⟨g, 0, none⟩ := ⟨_, rfl⟩
  have HAD := Aside0.mk had
  have HO := Aside0.mk ho
  have HE := Aside0.mk he
  have H0 := Aside0.mk e1
  have HVC := Aside0.mk hc
  have HY : Aside0 (w.cell? ⟨(ad.add (k * 3)).block, (ad.add (k * 3)).off + 1, none⟩ = some vc) := ⟨by
    rw [had, add_plain]
    show w.cell? ⟨g, k * 3 + 1, none⟩ = _
    rw [Nat.mul_comm]; exact y1⟩
  have HGT := Aside0.mk hbk
  have HBG := Aside0.mk hBg
  rw [← had] at k4
  have K4A := Aside0.mk k4
  clear hwr ho he e0 e1 ha hc hbk y0 y1 had hgl k4 hkb hll
  simp only [List.append_toArray, List.cons_append, List.nil_append]
  obtain ⟨ap, A0, c0, A1, c1, ea, z0, z1, z2, l0, g0, l1, g1⟩ := at_T51 hC 0 (by omega) (by omega)
  subst ea
  rw [show rd_T51 ws 0 = ws[0] from at51 ws h0] at z1 l1 g1
  simp only [Int.toNat_zero, Nat.zero_mul, addr_zero] at z1
  obtain ⟨pd, ep, z3⟩ := Kd.at_int g1 0 (by omega) (by omega)
  subst ep
  rw [show Go.Proofs.YtkeadpichlgagaaW.PrintWords.rd ws[0].f1 0 = ws[0].f1[0] from rd_at ws[0].f1 h1] at z3
  simp only [Int.toNat_zero, addr_zero] at z3
  have HPP := Aside0.mk hp
  have HPY : Aside0 (∀ W, Below w0.heap.size w0 W → W.cell? ⟨ap.block, ap.off + 1, none⟩ = some (.slice (some pd) ws[0].f1.length c1)) := ⟨fun W hW => pw_cell_below hW z1⟩
  have HPZ : Aside0 (∀ W, Below w0.heap.size w0 W → W.cell? pd = some (.int .i64 ws[0].f1[0])) := ⟨fun W hW => pw_cell_below hW z3⟩
  have h0' : (0 : Int) < (ws.length : Int) := by omega
  clear z0 z1 z2 z3 l0 g0 g1 hC hp
  generalize ws[0].f1[0] = y at HPZ ⊢
  generalize hn0 : ws[0].f1.length = n0 at h1 HPY l1
  have h1' : (0 : Int) < (n0 : Int) := by omega
  clear hn0
  have HD : Aside0 (Below w.heap.size w w.drew) := ⟨(Below.refl _ _).drew⟩
  have HC : Aside0 (∀ W, Below w.heap.size w W → W.cell? ⟨gq, 2, none⟩ = some (.slice (some ad) ws.length cap) ∧ W.cell? ⟨kb, 0, none⟩ = some (.int .i64 k) ∧ W.cell? ⟨(ad.add (k * 3)).block, (ad.add (k * 3)).off + 1, none⟩ = some vc ∧ W.cell? ⟨bp, 2, none⟩ = some (.slice (some ap) ws.length c) ∧ W.cell? ⟨ap.block, ap.off + 1, none⟩ = some (.slice (some pd) n0 c1) ∧ W.cell? pd = some (.int .i64 y)) := ⟨fun W hW => ⟨(blk_cell (blk_below K4A.out hW) 2).trans rfl, (blk_cell (blk_below HKB.out (HB.out.trans (hW.mono HB.out.size))) 0).trans rfl, pw_cell_below hW HY.out, (blk_cell (blk_below HPP.out (HB.out.trans (hW.mono HB.out.size))) 2).trans rfl, HPY.out W (HB.out.trans (hW.mono HB.out.size)), HPZ.out W (HB.out.trans (hW.mono HB.out.size))⟩⟩
  go_enter Try.func41, Try.ntmps41
  go_upto_region 0 with fail
  refine start_ (n := 25) (S := fun w' => w'.cell? ⟨gq, 2, none⟩ = some (.slice (some ad) ws.length cap) ∧ w'.cell? ⟨kb, 0, none⟩ = some (.int .i64 k) ∧ w'.cell? ⟨(ad.add (k * 3)).block, (ad.add (k * 3)).off + 1, none⟩ = some vc ∧ w'.cell? ⟨bp, 2, none⟩ = some (.slice (some ap) ws.length c) ∧ w'.cell? ⟨ap.block, ap.off + 1, none⟩ = some (.slice (some pd) n0 c1) ∧ w'.cell? pd = some (.int .i64 y)) (ds := [24]) #[false, false, false, false, false, false, false, false, false, false, false, false, false, false, false, false, false, false, false, false, false, false, false, false, false] (by kernel_rfl) rfl rfl (HC.out _ HD.out) (fun hHeld => ?_)
  refine pure_ (i := 0) (N := some 4) (v := ?_) (a' := ?_) #[true, false, false, false, false, false, false, false, false, false, false, false, false, false, false, false, false, false, false, false, false, false, false, false, false] rfl rfl (by kernel_rfl) (fun _ _ _ h => h) (Or.inl ⟨by rfl, ?_⟩) ?_ ?_
  rotate_left
  · intro w'
    go_simp
    with_reducible rfl
  rotate_left
  · simp only [Act.put, List.setIfInBounds_toArray, List.set_cons_zero, List.set_cons_succ, i64_w, i32_w]
    rfl
  refine pure_ (i := 1) (N := some 5) (v := ?_) (a' := ?_) #[true, true, false, false, false, false, false, false, false, false, false, false, false, false, false, false, false, false, false, false, false, false, false, false, false] rfl rfl (by kernel_rfl) (fun _ _ _ h => h) (Or.inl ⟨by rfl, ?_⟩) ?_ ?_
  rotate_left
  · intro w'
    go_simp
    with_reducible rfl
  rotate_left
  · simp only [Act.put, List.setIfInBounds_toArray, List.set_cons_zero, List.set_cons_succ, i64_w, i32_w]
    rfl
  refine pure_ (i := 2) (N := some 6) (v := ?_) (a' := ?_) #[true, true, true, false, false, false, false, false, false, false, false, false, false, false, false, false, false, false, false, false, false, false, false, false, false] rfl rfl (by kernel_rfl) (fun _ _ _ h => h) (Or.inl ⟨by rfl, ?_⟩) ?_ ?_
  rotate_left
  · intro w'
    go_simp
    with_reducible rfl
  rotate_left
  · simp only [Act.put, List.setIfInBounds_toArray, List.set_cons_zero, List.set_cons_succ, i64_w, i32_w]
    rfl
  refine pure_ (i := 5) (N := some 9) (v := ?_) (a' := ?_) #[true, true, true, false, false, true, false, false, false, false, false, false, false, false, false, false, false, false, false, false, false, false, false, false, false] rfl rfl (by kernel_rfl) (fun _ _ _ h => h) (Or.inl ⟨by rfl, ?_⟩) ?_ ?_
  rotate_left
  · intro w'
    go_simp
    with_reducible rfl
  rotate_left
  · simp only [Act.put, List.setIfInBounds_toArray, List.set_cons_zero, List.set_cons_succ, i64_w, i32_w]
    rfl
  refine pure_ (i := 6) (N := some 10) (v := ?_) (a' := ?_) #[true, true, true, false, false, true, true, false, false, false, false, false, false, false, false, false, false, false, false, false, false, false, false, false, false] rfl rfl (by kernel_rfl) (fun _ _ _ h => h) (Or.inl ⟨by rfl, ?_⟩) ?_ ?_
  rotate_left
  · intro w'
    go_simp
    with_reducible rfl
  rotate_left
  · simp only [Act.put, List.setIfInBounds_toArray, List.set_cons_zero, List.set_cons_succ, i64_w, i32_w]
    rfl
  refine pure_ (i := 7) (N := some 11) (v := ?_) (a' := ?_) #[true, true, true, false, false, true, true, true, false, false, false, false, false, false, false, false, false, false, false, false, false, false, false, false, false] rfl rfl (by kernel_rfl) (fun _ _ _ h => h) (Or.inl ⟨by rfl, ?_⟩) ?_ ?_
  rotate_left
  · intro w'
    go_simp
    with_reducible rfl
  rotate_left
  · simp only [Act.put, List.setIfInBounds_toArray, List.set_cons_zero, List.set_cons_succ, i64_w, i32_w]
    rfl
  refine pure_ (i := 13) (N := some 17) (v := ?_) (a' := ?_) #[true, true, true, false, false, true, true, true, false, false, false, false, false, true, false, false, false, false, false, false, false, false, false, false, false] rfl rfl (by kernel_rfl) (fun _ _ _ h => h) (Or.inl ⟨by rfl, ?_⟩) ?_ ?_
  rotate_left
  · intro w'
    go_simp
    with_reducible rfl
  rotate_left
  · simp only [Act.put, List.setIfInBounds_toArray, List.set_cons_zero, List.set_cons_succ, i64_w, i32_w]
    rfl
  refine take_ (i := 3) (N := some 7) (v := ?_) (a' := ?_) #[true, true, true, true, false, true, true, true, false, false, false, false, false, true, false, false, false, false, false, false, false, false, false, false, false] rfl rfl (by kernel_rfl) (fun _ _ _ h => h) (Or.inl ⟨by rfl, ?_⟩) hHeld ?_ ?_
  rotate_left
  · rintro w' ⟨s0, s1, s2, s3, s4, s5⟩
    go_simp
    with_reducible rfl
  rotate_left
  · simp only [Act.put, List.setIfInBounds_toArray, List.set_cons_zero, List.set_cons_succ, i64_w, i32_w]
    rfl
  refine take_ (i := 4) (N := some 8) (v := ?_) (a' := ?_) #[true, true, true, true, true, true, true, true, false, false, false, false, false, true, false, false, false, false, false, false, false, false, false, false, false] rfl rfl (by kernel_rfl) (fun _ _ _ h => h) (Or.inl ⟨by rfl, ?_⟩) hHeld ?_ ?_
  rotate_left
  · rintro w' ⟨s0, s1, s2, s3, s4, s5⟩
    go_simp
    with_reducible rfl
  rotate_left
  · simp only [Act.put, List.setIfInBounds_toArray, List.set_cons_zero, List.set_cons_succ, i64_w, i32_w]
    rfl
  refine take_ (i := 8) (N := some 12) (v := ?_) (a' := ?_) #[true, true, true, true, true, true, true, true, true, false, false, false, false, true, false, false, false, false, false, false, false, false, false, false, false] rfl rfl (by kernel_rfl) (fun _ _ _ h => h) (Or.inl ⟨by rfl, ?_⟩) hHeld ?_ ?_
  rotate_left
  · rintro w' ⟨s0, s1, s2, s3, s4, s5⟩
    go_simp
    with_reducible rfl
  rotate_left
  · simp only [Act.put, List.setIfInBounds_toArray, List.set_cons_zero, List.set_cons_succ, i64_w, i32_w]
    rfl
  refine take_ (i := 9) (N := some 13) (v := ?_) (a' := ?_) #[true, true, true, true, true, true, true, true, true, true, false, false, false, true, false, false, false, false, false, false, false, false, false, false, false] rfl rfl (by kernel_rfl) (fun _ _ _ h => h) (Or.inl ⟨by rfl, ?_⟩) hHeld ?_ ?_
  rotate_left
  · rintro w' ⟨s0, s1, s2, s3, s4, s5⟩
    go_simp
    with_reducible rfl
  rotate_left
  · simp only [Act.put, List.setIfInBounds_toArray, List.set_cons_zero, List.set_cons_succ, i64_w, i32_w]
    rfl
  refine pure_ (i := 10) (N := some 14) (v := ?_) (a' := ?_) #[true, true, true, true, true, true, true, true, true, true, true, false, false, true, false, false, false, false, false, false, false, false, false, false, false] rfl rfl (by kernel_rfl) (fun _ _ _ h => h) (Or.inl ⟨by rfl, ?_⟩) ?_ ?_
  rotate_left
  · intro w'
    go_simp
    with_reducible rfl
  rotate_left
  · simp only [Act.put, List.setIfInBounds_toArray, List.set_cons_zero, List.set_cons_succ, i64_w, i32_w]
    rfl
  refine pure_ (i := 11) (N := some 15) (v := ?_) (a' := ?_) #[true, true, true, true, true, true, true, true, true, true, true, true, false, true, false, false, false, false, false, false, false, false, false, false, false] rfl rfl (by kernel_rfl) (fun _ _ _ h => h) (Or.inl ⟨by rfl, ?_⟩) ?_ ?_
  rotate_left
  · intro w'
    go_simp
    with_reducible rfl
  rotate_left
  · simp only [Act.put, List.setIfInBounds_toArray, List.set_cons_zero, List.set_cons_succ, i64_w, i32_w]
    rfl
  refine take_ (i := 12) (N := some 16) (v := ?_) (a' := ?_) #[true, true, true, true, true, true, true, true, true, true, true, true, true, true, false, false, false, false, false, false, false, false, false, false, false] rfl rfl (by kernel_rfl) (fun _ _ _ h => h) (Or.inl ⟨by rfl, ?_⟩) hHeld ?_ ?_
  rotate_left
  · rintro w' ⟨s0, s1, s2, s3, s4, s5⟩
    go_simp
    with_reducible rfl
  rotate_left
  · simp only [Act.put, List.setIfInBounds_toArray, List.set_cons_zero, List.set_cons_succ, i64_w, i32_w]
    rfl
  refine take_ (i := 14) (N := some 18) (v := ?_) (a' := ?_) #[true, true, true, true, true, true, true, true, true, true, true, true, true, true, true, false, false, false, false, false, false, false, false, false, false] rfl rfl (by kernel_rfl) (fun _ _ _ h => h) (Or.inl ⟨by rfl, ?_⟩) hHeld ?_ ?_
  rotate_left
  · rintro w' ⟨s0, s1, s2, s3, s4, s5⟩
    go_simp
    with_reducible rfl
  rotate_left
  · simp only [Act.put, List.setIfInBounds_toArray, List.set_cons_zero, List.set_cons_succ, i64_w, i32_w]
    rfl
  refine pure_ (i := 15) (N := some 19) (v := ?_) (a' := ?_) #[true, true, true, true, true, true, true, true, true, true, true, true, true, true, true, true, false, false, false, false, false, false, false, false, false] rfl rfl (by kernel_rfl) (fun _ _ _ h => h) (Or.inl ⟨by rfl, ?_⟩) ?_ ?_
  rotate_left
  · intro w'
    go_simp
    with_reducible rfl
  rotate_left
  · simp only [Act.put, List.setIfInBounds_toArray, List.set_cons_zero, List.set_cons_succ, i64_w, i32_w]
    rfl
  refine pure_ (i := 16) (N := some 20) (v := ?_) (a' := ?_) #[true, true, true, true, true, true, true, true, true, true, true, true, true, true, true, true, true, false, false, false, false, false, false, false, false] rfl rfl (by kernel_rfl) (fun _ _ _ h => h) (Or.inl ⟨by rfl, ?_⟩) ?_ ?_
  rotate_left
  · intro w'
    go_simp
    with_reducible rfl
  rotate_left
  · simp only [Act.put, List.setIfInBounds_toArray, List.set_cons_zero, List.set_cons_succ, i64_w, i32_w]
    rfl
  refine take_ (i := 17) (N := some 21) (v := ?_) (a' := ?_) #[true, true, true, true, true, true, true, true, true, true, true, true, true, true, true, true, true, true, false, false, false, false, false, false, false] rfl rfl (by kernel_rfl) (fun _ _ _ h => h) (Or.inl ⟨by rfl, ?_⟩) hHeld ?_ ?_
  rotate_left
  · rintro w' ⟨s0, s1, s2, s3, s4, s5⟩
    go_simp
    with_reducible rfl
  rotate_left
  · simp only [Act.put, List.setIfInBounds_toArray, List.set_cons_zero, List.set_cons_succ, i64_w, i32_w]
    rfl
  refine pure_ (i := 18) (N := some 22) (v := ?_) (a' := ?_) #[true, true, true, true, true, true, true, true, true, true, true, true, true, true, true, true, true, true, true, false, false, false, false, false, false] rfl rfl (by kernel_rfl) (fun _ _ _ h => h) (Or.inl ⟨by rfl, ?_⟩) ?_ ?_
  rotate_left
  · intro w'
    go_simp
    with_reducible rfl
  rotate_left
  · simp only [Act.put, List.setIfInBounds_toArray, List.set_cons_zero, List.set_cons_succ, i64_w, i32_w]
    rfl
  refine take_ (i := 19) (N := some 23) (v := ?_) (a' := ?_) #[true, true, true, true, true, true, true, true, true, true, true, true, true, true, true, true, true, true, true, true, false, false, false, false, false] rfl rfl (by kernel_rfl) (fun _ _ _ h => h) (Or.inl ⟨by rfl, ?_⟩) hHeld ?_ ?_
  rotate_left
  · rintro w' ⟨s0, s1, s2, s3, s4, s5⟩
    go_simp
    with_reducible rfl
  rotate_left
  · simp only [Act.put, List.setIfInBounds_toArray, List.set_cons_zero, List.set_cons_succ, i64_w, i32_w]
    rfl
  refine one_ (i := 20) (N := some 24) #[true, true, true, true, true, true, true, true, true, true, true, true, true, true, true, true, true, true, true, true, true, false, false, false, false] rfl rfl (by kernel_rfl) (by decide) (fun K hK => ?_)
  refine value_ (w1 := ?_) (v := ?_) (by rfl) rfl ?_ ?_
  rotate_left 2
  · go_simp
    constructor
    · rfl
    · rfl
  have hb : Below w.drew.heap.size w.drew (w.drew.alloc (Obj.cells #[.int .i64 y] 3)) := (Below.refl _ w.drew).alloc (Nat.le_refl _) _
  have HD2 := Aside0.mk (HD.out.trans (hb.mono HD.out.size))
  clear hb
  refine hK.out _ _ (HC.out _ HD2.out) (fun hHeld => ?_)
  clear hK K
  refine norm_ (a' := ?_) ?_ ?_
  rotate_left
  · show Act.put _ (some 24) _ = _
    simp only [Act.put, List.setIfInBounds_toArray, List.set_cons_zero, List.set_cons_succ, i64_w, i32_w]
    rfl
  refine one_ (i := 21) (N := some 25) #[true, true, true, true, true, true, true, true, true, true, true, true, true, true, true, true, true, true, true, true, true, true, false, false, false] rfl rfl (by kernel_rfl) (by decide) (fun K hK => ?_)
  refine Kd.R_append_step (Kd.int .i64) (w0 := w.drew) B (by rfl) (.tmp 16) (.tmp 24) 25 3 (.int .i64 0) 8 rfl Try.underlying25 info3 rfl (by decide) (by decide) vc ws[k].f1 y [.int .i64 y] (fun _ => True) (fun _ => False) (by rfl) (by rfl) rfl (fun _ h => h.elim) (fun _ _ => trivial) (Kd.R_drew HVC.out) (Below.refl _ _) HBS.out (by have := HLL.out; omega) ?_
  intro v9 w9 hr9 hb9 hg9 hat9
  obtain ⟨A9, c9, rfl⟩ := Kd.R_slice hr9
  rw [List.length_append, List.length_singleton] at hr9 hat9
  have HR9 := Aside0.mk hr9
  have HG9 : Aside0 (w.grownBy w9 vc.ownBlock) := ⟨World.grownBy.trans (grown_of_below (Below.refl _ w).drew _) hg9⟩
  have HAT := Aside0.mk hat9
  have HNE : Aside0 (∀ k, vc.ownBlock = some k → B ≤ k) := ⟨Kd.R_base HVC.out⟩
  have K19 := Aside0.mk (blk_grown K4A.out HG9.out (fun e => by have h := HNE.out _ e.symm; have := HGB.out; omega))
  have HGR : Aside0 (w9.heap[g]? = w.heap[g]?) := ⟨HG9.out.block g (by obtain ⟨cur, hcur⟩ := HGT.out; exact blk_lt hcur) (fun e => inner_ne HO.out HVC.out _ e.symm rfl)⟩
  have HB9 : Aside0 (Below w0.heap.size w0 w9) := ⟨HB.out.trans ((pw_below_grown (Below.refl gq w) _ (by have := HBS.out; have := HGB.out; omega) HG9.out (fun k hk => by have := HNE.out k hk; have := HGB.out; omega)).mono HGQ.out)⟩
  have HY9 : Aside0 (w9.cell? ⟨(ad.add (k * 3)).block, (ad.add (k * 3)).off + 1, none⟩ = some vc) := ⟨by
    rw [← HY.out]
    refine World.cell?_of_block (w := w) (w' := w9) ?_
    rw [HAD.out, add_plain]
    exact HGR.out⟩
  clear hr9 hb9 hg9 hat9
  refine hK.out _ _ (⟨(blk_cell K19.out 2).trans rfl, (blk_cell (blk_below HKB.out HB9.out) 0).trans rfl, HY9.out, (blk_cell (blk_below HPP.out HB9.out) 2).trans rfl, HPY.out w9 HB9.out, HPZ.out w9 HB9.out⟩) (fun hHeld => ?_)
  clear hK K
  refine norm_ (a' := ?_) ?_ ?_
  rotate_left
  · show Act.put _ (some 25) _ = _
    simp only [Act.put, List.setIfInBounds_toArray, List.set_cons_zero, List.set_cons_succ, i64_w, i32_w]
    rfl
  refine pure_ (i := 22) (N := some 26) (v := ?_) (a' := ?_) #[true, true, true, true, true, true, true, true, true, true, true, true, true, true, true, true, true, true, true, true, true, true, true, false, false] rfl rfl (by kernel_rfl) (fun _ _ _ h => h) (Or.inl ⟨by rfl, ?_⟩) ?_ ?_
  rotate_left
  · intro w'
    go_simp
    with_reducible rfl
  rotate_left
  · simp only [Act.put, List.setIfInBounds_toArray, List.set_cons_zero, List.set_cons_succ, i64_w, i32_w]
    rfl
  refine pure_ (i := 23) (N := some 27) (v := ?_) (a' := ?_) #[true, true, true, true, true, true, true, true, true, true, true, true, true, true, true, true, true, true, true, true, true, true, true, true, false] rfl rfl (by kernel_rfl) (fun _ _ _ h => h) (Or.inl ⟨by rfl, ?_⟩) ?_ ?_
  rotate_left
  · intro w'
    go_simp
    with_reducible rfl
  rotate_left
  · simp only [Act.put, List.setIfInBounds_toArray, List.set_cons_zero, List.set_cons_succ, i64_w, i32_w]
    rfl
  refine last_ (i := 24) (N := none) #[true, true, true, true, true, true, true, true, true, true, true, true, true, true, true, true, true, true, true, true, true, true, true, true, true] rfl rfl (by kernel_rfl) (by decide) (fun K hK => ?_)
  have hy9 := HY9.out
  have HF9 : w9.frozen? ⟨(ad.add (k * 3)).block, (ad.add (k * 3)).off + 1, none⟩ = false := by
    obtain ⟨cur, hcur⟩ := HGT.out
    rw [HAD.out, add_plain]
    exact blk_frozen (HGR.out.trans hcur) _
  refine skip_ (w1 := ?_) (by rfl) rfl ?_ ?_
  rotate_left
  · go_simp
    rfl
  clear hy9 HF9
  refine hK.out _ _ ?_
  clear hK K
  refine done_ (by kernel_rfl) ?_
  go_end0
  obtain ⟨f', hput⟩ := Wr.put1 HO.out HE.out HQK.out H0.out HG9.out HR9.out HAT.out
  have hadr : (⟨(ad.add (k * 3)).block, (ad.add (k * 3)).off + 1, none⟩ : Addr) = ⟨g, 3 * k + 1, none⟩ := by rw [HAD.out, add_plain]; show (⟨g, k * 3 + 1, none⟩ : Addr) = _; rw [Nat.mul_comm]
  rw [hadr]
  have hbg := HBG.out
  have hgb := HGB.out
  refine ⟨rfl, ⟨_, f', blk_far (p := ⟨g, 3 * k + 1, none⟩) (by rw [HAD.out] at K19; exact K19.out) (by show gq ≠ g; omega) (.slice A9 (ws[k].f1.length + 1) c9), hput, hgb, by have h1 := HG9.out.size; have h2 := HBS.out; simp [World.setCell]; omega⟩, (pw_below_grown (Below.refl gq w) _ (by have := HBS.out; omega) HG9.out (fun k hk => by have := HNE.out k hk; omega)).setCell (p := ⟨g, 3 * k + 1, none⟩) (by show gq ≤ g; omega) (.slice A9 (ws[k].f1.length + 1) c9)⟩
set_option maxHeartbeats 4000000 in
set_option maxRecDepth 100000 in
theorem chg43 (w0 : World) (b d : Int) (ws : List S51) (k kb : Nat) (hk : k < ws.length) (hwl : ws.length ≤ 1000000) (hll : ws[k].f1.length ≤ 1000000) (hkb : w0.heap[kb]? = some (.cells #[.int .i64 k] 3 (0, 0))) : Chg w0 43 #[.pointer (some ⟨kb, 0, none⟩)] b d ws b (ws.set k ⟨ws[k].f0, [], ws[k].f2⟩) := by
  intro gq B w hB hgq ⟨v, f, k4, hwr, hgb, hbs⟩
  have HB := Aside0.mk hB
  have K4 := Aside0.mk k4
  have HGB := Aside0.mk hgb
  have HBS := Aside0.mk hbs
  have HKB := Aside0.mk hkb
  have HGQ := Aside0.mk hgq
  obtain ⟨g, cap, cells, va, vc, rfl, hBg, hgl, ho, he, e0, e1, ha, hc, hbk, y0, y1⟩ := hwr.at hk
  have HQK : Aside0 (ws[k]? = some ws[k]) := ⟨List.getElem?_eq_getElem hk⟩
  have hk' : (k : Int) < (ws.length : Int) := by omega
  have HLL := Aside0.mk hll
  have hmx : ws.length ≤ 1000000 := hwl
  obtain ⟨ad, had⟩ : ∃ ad : Addr, ad = ⟨g, 0, none⟩ := ⟨_, rfl⟩
  have HAD := Aside0.mk had
  have HO := Aside0.mk ho
  have HE := Aside0.mk he
  have H0 := Aside0.mk e1
  have HVC := Aside0.mk hc
  have HY : Aside0 (w.cell? ⟨(ad.add (k * 3)).block, (ad.add (k * 3)).off + 1, none⟩ = some vc) := ⟨by
    rw [had, add_plain]
    show w.cell? ⟨g, k * 3 + 1, none⟩ = _
    rw [Nat.mul_comm]; exact y1⟩
  have HGT := Aside0.mk hbk
  have HBG := Aside0.mk hBg
  rw [← had] at k4
  have K4A := Aside0.mk k4
  clear hwr ho he e0 e1 ha hc hbk y0 y1 had hgl k4 hkb hll
  simp only [List.append_toArray, List.cons_append, List.nil_append]
  have HD : Aside0 (Below w.heap.size w w.drew) := ⟨(Below.refl _ _).drew⟩
  have HC : Aside0 (∀ W, Below w.heap.size w W → W.cell? ⟨gq, 2, none⟩ = some (.slice (some ad) ws.length cap) ∧ W.cell? ⟨kb, 0, none⟩ = some (.int .i64 k)) := ⟨fun W hW => ⟨(blk_cell (blk_below K4A.out hW) 2).trans rfl, (blk_cell (blk_below HKB.out (HB.out.trans (hW.mono HB.out.size))) 0).trans rfl⟩⟩
  go_enter Try.func43, Try.ntmps43
  go_upto_region 0 with fail
  refine start_ (n := 8) (S := fun w' => w'.cell? ⟨gq, 2, none⟩ = some (.slice (some ad) ws.length cap) ∧ w'.cell? ⟨kb, 0, none⟩ = some (.int .i64 k)) (ds := [7]) #[false, false, false, false, false, false, false, false] (by kernel_rfl) rfl rfl (HC.out _ HD.out) (fun hHeld => ?_)
  refine pure_ (i := 0) (N := some 3) (v := ?_) (a' := ?_) #[true, false, false, false, false, false, false, false] rfl rfl (by kernel_rfl) (fun _ _ _ h => h) (Or.inl ⟨by rfl, ?_⟩) ?_ ?_
  rotate_left
  · intro w'
    go_simp
    with_reducible rfl
  rotate_left
  · simp only [Act.put, List.setIfInBounds_toArray, List.set_cons_zero, List.set_cons_succ, i64_w, i32_w]
    rfl
  refine pure_ (i := 1) (N := some 4) (v := ?_) (a' := ?_) #[true, true, false, false, false, false, false, false] rfl rfl (by kernel_rfl) (fun _ _ _ h => h) (Or.inl ⟨by rfl, ?_⟩) ?_ ?_
  rotate_left
  · intro w'
    go_simp
    with_reducible rfl
  rotate_left
  · simp only [Act.put, List.setIfInBounds_toArray, List.set_cons_zero, List.set_cons_succ, i64_w, i32_w]
    rfl
  refine pure_ (i := 2) (N := some 5) (v := ?_) (a' := ?_) #[true, true, true, false, false, false, false, false] rfl rfl (by kernel_rfl) (fun _ _ _ h => h) (Or.inl ⟨by rfl, ?_⟩) ?_ ?_
  rotate_left
  · intro w'
    go_simp
    with_reducible rfl
  rotate_left
  · simp only [Act.put, List.setIfInBounds_toArray, List.set_cons_zero, List.set_cons_succ, i64_w, i32_w]
    rfl
  refine take_ (i := 3) (N := some 6) (v := ?_) (a' := ?_) #[true, true, true, true, false, false, false, false] rfl rfl (by kernel_rfl) (fun _ _ _ h => h) (Or.inl ⟨by rfl, ?_⟩) hHeld ?_ ?_
  rotate_left
  · rintro w' ⟨s0, s1⟩
    go_simp
    with_reducible rfl
  rotate_left
  · simp only [Act.put, List.setIfInBounds_toArray, List.set_cons_zero, List.set_cons_succ, i64_w, i32_w]
    rfl
  refine take_ (i := 4) (N := some 7) (v := ?_) (a' := ?_) #[true, true, true, true, true, false, false, false] rfl rfl (by kernel_rfl) (fun _ _ _ h => h) (Or.inl ⟨by rfl, ?_⟩) hHeld ?_ ?_
  rotate_left
  · rintro w' ⟨s0, s1⟩
    go_simp
    with_reducible rfl
  rotate_left
  · simp only [Act.put, List.setIfInBounds_toArray, List.set_cons_zero, List.set_cons_succ, i64_w, i32_w]
    rfl
  refine pure_ (i := 5) (N := some 8) (v := ?_) (a' := ?_) #[true, true, true, true, true, true, false, false] rfl rfl (by kernel_rfl) (fun _ _ _ h => h) (Or.inl ⟨by rfl, ?_⟩) ?_ ?_
  rotate_left
  · intro w'
    go_simp
    with_reducible rfl
  rotate_left
  · simp only [Act.put, List.setIfInBounds_toArray, List.set_cons_zero, List.set_cons_succ, i64_w, i32_w]
    rfl
  refine pure_ (i := 6) (N := some 9) (v := ?_) (a' := ?_) #[true, true, true, true, true, true, true, false] rfl rfl (by kernel_rfl) (fun _ _ _ h => h) (Or.inl ⟨by rfl, ?_⟩) ?_ ?_
  rotate_left
  · intro w'
    go_simp
    with_reducible rfl
  rotate_left
  · simp only [Act.put, List.setIfInBounds_toArray, List.set_cons_zero, List.set_cons_succ, i64_w, i32_w]
    rfl
  refine last_ (i := 7) (N := none) #[true, true, true, true, true, true, true, true] rfl rfl (by kernel_rfl) (by decide) (fun K hK => ?_)
  have hy9 : w.drew.cell? ⟨(ad.add (k * 3)).block, (ad.add (k * 3)).off + 1, none⟩ = some vc := HY.out
  have HF9 : w.drew.frozen? ⟨(ad.add (k * 3)).block, (ad.add (k * 3)).off + 1, none⟩ = false := by
    obtain ⟨cur, hcur⟩ := HGT.out
    rw [HAD.out, add_plain]
    exact blk_frozen (w := w.drew) hcur _
  refine skip_ (w1 := ?_) (by rfl) rfl ?_ ?_
  rotate_left
  · go_simp
    rfl
  clear hy9 HF9
  refine hK.out _ _ ?_
  clear hK K
  refine done_ (by kernel_rfl) ?_
  go_end0
  have hadr : (⟨(ad.add (k * 3)).block, (ad.add (k * 3)).off + 1, none⟩ : Addr) = ⟨g, 3 * k + 1, none⟩ := by rw [HAD.out, add_plain]; show (⟨g, k * 3 + 1, none⟩ : Addr) = _; rw [Nat.mul_comm]
  rw [hadr]
  have hbg := HBG.out
  have hgb := HGB.out
  obtain ⟨va', vc', q0, q1, q2, ra, sa, rc, sc⟩ := HE.out k _ HQK.out
  have hl : cells.length = ws.length * 3 := HO.out.1
  have hput : Wr (w.drew.setCell ⟨g, 3 * k + 1, none⟩ (.slice none 0 0)) B (.slice (some ⟨g, 0, none⟩) ws.length cap) (ws.set k ⟨ws[k].f0, [], ws[k].f2⟩) f :=
    Wr.store (w := w.drew) (i := 1) (u := .slice none 0 0) (pw_own_below HO.out (Below.refl _ w).drew) rfl hk (by omega) (fun j y _ hj => El.grown HE.out (Below.refl _ w).drew j y hj) ⟨va', .slice none 0 0, by rw [List.getElem?_set_ne (by omega)]; exact q0, by rw [List.getElem?_set_self (by omega)], by rw [List.getElem?_set_ne (by omega)]; exact q2, Kd.R_drew ra, sa, Kd.R_nil _ _ _ _ _, fun k hk => by simp [Value.ownBlock] at hk⟩
  refine ⟨rfl, ⟨_, f, blk_far (w := w.drew) (p := ⟨g, 3 * k + 1, none⟩) K4.out (by show gq ≠ g; omega) (.slice none 0 0), hput, hgb, by have h2 := HBS.out; simpa [World.setCell] using h2⟩, ((Below.refl gq w).drew).setCell (p := ⟨g, 3 * k + 1, none⟩) (by show gq ≤ g; omega) (.slice none 0 0)⟩
end Go.Proofs.Ytkeadpichlgagaa.Pla
namespace Go.Proofs.Ytkeadpichlgagaa.Pla
open Go.RowKit Go.Lib Go.Sort Go.Shelf Go.Proofs.YtkeadpichlgagaaW.PrintWords Go.Proofs.YtkeadpichlgagaaW.PrintLast Go.Proofs.YtkeadpichlgagaaW.PrintMore
open Go.Proofs.Ytkeadpichlgagaa.Pl Go.Proofs.Ytkeadpichlgagaa.PlS Go.Proofs.Ytkeadpichlgagaa.Mp
set_option linter.unusedVariables false
set_option linter.unusedSimpArgs false
set_option linter.unnecessarySimpa false
def revI (l : List Int) (i : Nat) : List Int := (List.range l.length).map (fun p => if p < i ∨ l.length - 1 - p < i then l.getD (l.length - 1 - p) 0 else l.getD p 0)
theorem revI_len (l : List Int) (i : Nat) : (revI l i).length = l.length := by simp [revI]
theorem revI_at (l : List Int) (i : Nat) {p : Nat} (h : p < l.length) : (revI l i).getD p 0 = if p < i ∨ l.length - 1 - p < i then l.getD (l.length - 1 - p) 0 else l.getD p 0 := by
  unfold revI
  rw [List.getD_eq_getElem?_getD, List.getElem?_map, List.getElem?_range h]
  rfl
theorem ext_getD {l m : List Int} (hl : l.length = m.length) (h : ∀ p, p < l.length → l.getD p 0 = m.getD p 0) : l = m := by
  refine List.ext_getElem hl (fun p h1 h2 => ?_)
  have := h p h1
  rwa [List.getD_eq_getElem?_getD, List.getD_eq_getElem?_getD, List.getElem?_eq_getElem h1, List.getElem?_eq_getElem h2] at this
theorem revI_zero (l : List Int) : revI l 0 = l := ext_getD (revI_len l 0) (fun p hp => by rw [revI_len] at hp; rw [revI_at l 0 hp, if_neg (by omega)])
theorem getD_rev (l : List Int) {p : Nat} (h : p < l.length) : l.reverse.getD p 0 = l.getD (l.length - 1 - p) 0 := by
  rw [List.getD_eq_getElem?_getD, List.getD_eq_getElem?_getD, List.getElem?_reverse h]
theorem revI_end {l : List Int} {i : Nat} (h : l.length ≤ 2 * i + 1) : revI l i = l.reverse := by
  refine ext_getD (by rw [revI_len, List.length_reverse]) (fun p hp => ?_)
  rw [revI_len] at hp
  rw [revI_at l i hp, getD_rev l hp]
  by_cases h1 : p < i ∨ l.length - 1 - p < i
  · rw [if_pos h1]
  · rw [if_neg h1]
    rw [show l.length - 1 - p = p from by omega]
theorem getD_set (l : List Int) (i p : Nat) (a : Int) (hp : p < l.length) : (l.set i a).getD p 0 = if i = p then a else l.getD p 0 := by
  rw [List.getD_eq_getElem?_getD, List.getElem?_set]
  by_cases h : i = p
  · subst h; simp [hp]
  · simp [h, List.getD_eq_getElem?_getD]
theorem revI_step {l : List Int} {i q : Nat} (hq : q = l.length - 1 - i) (h : i < q) : ((revI l i).set i (l.getD q 0)).set q (l.getD i 0) = revI l (i + 1) := by
  subst hq
  refine ext_getD (by rw [List.length_set, List.length_set, revI_len, revI_len]) (fun p hp => ?_)
  rw [List.length_set, List.length_set, revI_len] at hp
  rw [getD_set _ _ _ _ (by rw [List.length_set, revI_len]; exact hp), getD_set _ _ _ _ (by rw [revI_len]; exact hp), revI_at l i hp, revI_at l (i + 1) hp]
  by_cases h1 : l.length - 1 - i = p
  · rw [if_pos h1, if_pos (by omega), show l.length - 1 - p = i from by omega]
  · rw [if_neg h1]
    by_cases h2 : i = p
    · rw [if_pos h2, if_pos (by omega), h2]
    · rw [if_neg h2]
      by_cases h3 : p < i ∨ l.length - 1 - p < i
      · rw [if_pos h3, if_pos (by omega)]
      · rw [if_neg h3, if_neg (by omega)]
theorem Wr.turn {w w1 : World} {B g n cap : Nat} {ws : List S51} {f : Nat → Nat} {cells : List Value} {k : Nat} {vc : Value} {x : S51} {l' : List Int} (ho : w.ownsRow B 51 3 (.slice (some ⟨g, 0, none⟩) n cap) ws.length cells) (he : ∀ j x, ws[j]? = some x → El w B f cells j x)
    (hx : ws[k]? = some x) (hvc : cells[3 * k + 1]? = some vc) (hg : w.grownBy w1 vc.ownBlock) (hr : IntR w1 B vc l') : Wr w1 B (.slice (some ⟨g, 0, none⟩) n cap) (ws.set k ⟨x.f0, l', x.f2⟩) f := by
  have hk := (List.getElem?_eq_some_iff.1 hx).1
  obtain ⟨va, vc', e0, e1, e2, ha, ta, hc, tc⟩ := he k x hx
  obtain rfl : vc' = vc := by rw [hvc] at e1; exact (Option.some.inj e1).symm
  have ho1 : w1.ownsRow B 51 3 (.slice (some ⟨g, 0, none⟩) n cap) ws.length cells := ho.kept hg (by
    rcases hb : vc'.ownBlock with _ | b
    · right; simp [Value.ownBlock]
    · right; exact fun e => inner_ne ho hc b hb e)
  refine ⟨cells, by rw [List.length_set]; exact ho1, fun j y hj => ?_⟩
  by_cases hjk : k = j
  · subst hjk
    rw [List.getElem?_set_self hk] at hj
    cases hj
    refine ⟨va, vc', e0, e1, e2, ha.move (fun b hb hlt => hg.block b hlt (fun e => ?_)), ta, hr, tc⟩
    have := ta b hb
    have := tc b e.symm
    omega
  · rw [List.getElem?_set_ne hjk] at hj
    refine (he j y hj).move (fun b hb ht => hg.block b hb (fun e => ?_)) (fun _ _ => rfl)
    have := tc b e.symm
    omega
theorem row_put {w : World} {B gc n cap : Nat} {xs : List Int} (h : IntR w B (.slice (some ⟨gc, 0, none⟩) n cap) xs) (hn : n = xs.length) {i : Nat} (hi : i < n) (a : Int) : IntR (w.setCell ⟨gc, i, none⟩ (.int .i64 a)) B (.slice (some ⟨gc, 0, none⟩) n cap) (xs.set i a) := by
  subst hn
  have ho := Kd.own_of_R h
  have h2 := own_put ho (i := i) (by omega) (.int .i64 a)
  refine Kd.R_of_own (α := Int) (enc := Value.int .i64) (h1 := fun _ => rfl) ?_ (fun _ _ => trivial)
  rw [List.length_set]
  have e : (encs (Value.int .i64) xs).set i (Value.int .i64 a) = encs (Value.int .i64) (xs.set i a) := by unfold encs; rw [List.map_set]
  rw [← e]
  exact h2
theorem row_at {w : World} {B gc n cap : Nat} {xs : List Int} (h : IntR w B (.slice (some ⟨gc, 0, none⟩) n cap) xs) (hn : n = xs.length) {i : Nat} (hi : i < n) : w.cell? ⟨gc, i, none⟩ = some (.int .i64 (xs.getD i 0)) ∧ w.frozen? ⟨gc, i, none⟩ = false := by
  subst hn
  obtain ⟨_, _, hC⟩ := Kd.R_reads' h
  obtain ⟨pd, e, y⟩ := Kd.at_int hC (i : Int) (by omega) (by omega)
  cases e
  rw [Int.toNat_natCast, add_plain] at y
  obtain ⟨cur, hcur⟩ := own_typed (Kd.own_of_R h) gc rfl
  exact ⟨y, blk_frozen hcur i⟩
set_option maxHeartbeats 8000000 in
set_option maxRecDepth 100000 in
theorem chg40 (w0 : World) (b d : Int) (ws : List S51) (k kb : Nat) (hk : k < ws.length) (hwl : ws.length ≤ 1000000) (hll : ws[k].f1.length ≤ 1000000) (hkb : w0.heap[kb]? = some (.cells #[.int .i64 k] 3 (0, 0))) : Chg w0 40 #[.pointer (some ⟨kb, 0, none⟩)] b d ws b (ws.set k ⟨ws[k].f0, ws[k].f1.reverse, ws[k].f2⟩) := by
  intro gq B w hB hgq ⟨v, f, k4, hwr, hgb, hbs⟩
  have HB := Aside0.mk hB
  have K4 := Aside0.mk k4
  have HGB := Aside0.mk hgb
  have HBS := Aside0.mk hbs
  have HKB := Aside0.mk hkb
  have HGQ := Aside0.mk hgq
  obtain ⟨g, cap, cells, va, vc, rfl, hBg, hgl, ho, he, e0, e1, ha, hc, hbk, y0, y1⟩ := hwr.at hk
  have HQK : Aside0 (ws[k]? = some ws[k]) := ⟨List.getElem?_eq_getElem hk⟩
  have hk' : (k : Int) < (ws.length : Int) := by omega
  have HLL := Aside0.mk hll
  have hmx : ws.length ≤ 1000000 := hwl
  obtain ⟨ad, had⟩ : ∃ ad : Addr, ad = ⟨g, 0, none⟩ := ⟨_, rfl⟩
  have HAD := Aside0.mk had
  have HO := Aside0.mk ho
  have HE := Aside0.mk he
  have H0 := Aside0.mk e1
  have HVC := Aside0.mk hc
  have HY : Aside0 (w.cell? ⟨(ad.add (k * 3)).block, (ad.add (k * 3)).off + 1, none⟩ = some vc) := ⟨by
    rw [had, add_plain]
    show w.cell? ⟨g, k * 3 + 1, none⟩ = _
    rw [Nat.mul_comm]; exact y1⟩
  have HGT := Aside0.mk hbk
  have HBG := Aside0.mk hBg
  rw [← had] at k4
  have K4A := Aside0.mk k4
  clear hwr ho he e0 e1 ha hc hbk y0 y1 had hgl k4 hkb hll
  simp only [List.append_toArray, List.cons_append, List.nil_append]
  have HD : Aside0 (Below w.heap.size w w.drew) := ⟨(Below.refl _ _).drew⟩
  have HC : Aside0 (∀ W, Below w.heap.size w W → W.cell? ⟨gq, 2, none⟩ = some (.slice (some ad) ws.length cap) ∧ W.cell? ⟨kb, 0, none⟩ = some (.int .i64 k) ∧ W.cell? ⟨(ad.add (k * 3)).block, (ad.add (k * 3)).off + 1, none⟩ = some vc) := ⟨fun W hW => ⟨(blk_cell (blk_below K4A.out hW) 2).trans rfl, (blk_cell (blk_below HKB.out (HB.out.trans (hW.mono HB.out.size))) 0).trans rfl, pw_cell_below hW HY.out⟩⟩
  go_enter Try.func40, Try.ntmps40
  go_upto_region 0 with fail
  refine start_ (n := 9) (S := fun w' => w'.cell? ⟨gq, 2, none⟩ = some (.slice (some ad) ws.length cap) ∧ w'.cell? ⟨kb, 0, none⟩ = some (.int .i64 k) ∧ w'.cell? ⟨(ad.add (k * 3)).block, (ad.add (k * 3)).off + 1, none⟩ = some vc) (ds := []) #[false, false, false, false, false, false, false, false, false] (by kernel_rfl) rfl rfl (HC.out _ HD.out) (fun hHeld => ?_)
  refine pure_ (i := 0) (N := some 5) (v := ?_) (a' := ?_) #[true, false, false, false, false, false, false, false, false] rfl rfl (by kernel_rfl) (fun _ _ _ h => h) (Or.inl ⟨by rfl, ?_⟩) ?_ ?_
  rotate_left
  · intro w'
    go_simp
    with_reducible rfl
  rotate_left
  · simp only [Act.put, List.setIfInBounds_toArray, List.set_cons_zero, List.set_cons_succ, i64_w, i32_w]
    rfl
  refine pure_ (i := 1) (N := some 6) (v := ?_) (a' := ?_) #[true, true, false, false, false, false, false, false, false] rfl rfl (by kernel_rfl) (fun _ _ _ h => h) (Or.inl ⟨by rfl, ?_⟩) ?_ ?_
  rotate_left
  · intro w'
    go_simp
    with_reducible rfl
  rotate_left
  · simp only [Act.put, List.setIfInBounds_toArray, List.set_cons_zero, List.set_cons_succ, i64_w, i32_w]
    rfl
  refine pure_ (i := 2) (N := some 7) (v := ?_) (a' := ?_) #[true, true, true, false, false, false, false, false, false] rfl rfl (by kernel_rfl) (fun _ _ _ h => h) (Or.inl ⟨by rfl, ?_⟩) ?_ ?_
  rotate_left
  · intro w'
    go_simp
    with_reducible rfl
  rotate_left
  · simp only [Act.put, List.setIfInBounds_toArray, List.set_cons_zero, List.set_cons_succ, i64_w, i32_w]
    rfl
  refine take_ (i := 3) (N := some 8) (v := ?_) (a' := ?_) #[true, true, true, true, false, false, false, false, false] rfl rfl (by kernel_rfl) (fun _ _ _ h => h) (Or.inl ⟨by rfl, ?_⟩) hHeld ?_ ?_
  rotate_left
  · rintro w' ⟨s0, s1, s2⟩
    go_simp
    with_reducible rfl
  rotate_left
  · simp only [Act.put, List.setIfInBounds_toArray, List.set_cons_zero, List.set_cons_succ, i64_w, i32_w]
    rfl
  refine take_ (i := 4) (N := some 9) (v := ?_) (a' := ?_) #[true, true, true, true, true, false, false, false, false] rfl rfl (by kernel_rfl) (fun _ _ _ h => h) (Or.inl ⟨by rfl, ?_⟩) hHeld ?_ ?_
  rotate_left
  · rintro w' ⟨s0, s1, s2⟩
    go_simp
    with_reducible rfl
  rotate_left
  · simp only [Act.put, List.setIfInBounds_toArray, List.set_cons_zero, List.set_cons_succ, i64_w, i32_w]
    rfl
  refine pure_ (i := 5) (N := some 10) (v := ?_) (a' := ?_) #[true, true, true, true, true, true, false, false, false] rfl rfl (by kernel_rfl) (fun _ _ _ h => h) (Or.inl ⟨by rfl, ?_⟩) ?_ ?_
  rotate_left
  · intro w'
    go_simp
    with_reducible rfl
  rotate_left
  · simp only [Act.put, List.setIfInBounds_toArray, List.set_cons_zero, List.set_cons_succ, i64_w, i32_w]
    rfl
  refine pure_ (i := 6) (N := some 11) (v := ?_) (a' := ?_) #[true, true, true, true, true, true, true, false, false] rfl rfl (by kernel_rfl) (fun _ _ _ h => h) (Or.inl ⟨by rfl, ?_⟩) ?_ ?_
  rotate_left
  · intro w'
    go_simp
    with_reducible rfl
  rotate_left
  · simp only [Act.put, List.setIfInBounds_toArray, List.set_cons_zero, List.set_cons_succ, i64_w, i32_w]
    rfl
  refine take_ (i := 7) (N := some 12) (v := ?_) (a' := ?_) #[true, true, true, true, true, true, true, true, false] rfl rfl (by kernel_rfl) (fun _ _ _ h => h) (Or.inl ⟨by rfl, ?_⟩) hHeld ?_ ?_
  rotate_left
  · rintro w' ⟨s0, s1, s2⟩
    go_simp
    with_reducible rfl
  rotate_left
  · simp only [Act.put, List.setIfInBounds_toArray, List.set_cons_zero, List.set_cons_succ, i64_w, i32_w]
    rfl
  refine pure_ (i := 8) (N := some 3) (v := ?_) (a' := ?_) #[true, true, true, true, true, true, true, true, true] rfl rfl (by kernel_rfl) (fun _ _ _ h => h) (Or.inl ⟨by rfl, ?_⟩) ?_ ?_
  rotate_left
  · intro w'
    go_simp
    with_reducible rfl
  rotate_left
  · simp only [Act.put, List.setIfInBounds_toArray, List.set_cons_zero, List.set_cons_succ, i64_w, i32_w]
    rfl
  refine done_ (by kernel_rfl) ?_
  clear hHeld HC HD
  have HWD : Aside0 (w.grownBy w.drew vc.ownBlock) := ⟨grown_of_below (Below.refl _ w).drew _⟩
  have HV0 : Aside0 (IntR w.drew B vc (revI ws[k].f1 0)) := ⟨by rw [revI_zero]; exact Kd.R_drew HVC.out⟩
  obtain ⟨Ac, cc, rfl⟩ := Kd.R_slice HVC.out
  have HLLL := HLL.out
  obtain ⟨l, hl⟩ : ∃ l, ws[k].f1 = l := ⟨_, rfl⟩
  rw [hl] at HLLL HV0 HVC HWD H0 HY ⊢
  have HLE := Aside0.mk hl
  clear hl
  obtain ⟨N, hN⟩ : ∃ N, l.length = N := ⟨_, rfl⟩
  have HNE := Aside0.mk hN
  rw [hN] at HLLL HV0 HVC HWD H0 HY ⊢
  clear hN
  have HHALF : Aside0 ((N : Int) / 2 = ((N / 2 : Nat) : Int)) := ⟨by omega⟩
  generalize w.drew = w1 at *
  go_wp2_with fail
  go_loopg [4] N (fun kq v4 wr => ∃ i : Nat, v4 = .int .i64 i ∧ i + kq = N ∧ Aside0 (2 * i ≤ N) ∧ Aside0 (IntR wr B (.slice Ac N cc) (revI l i)) ∧ Aside0 (w.grownBy wr (Value.slice Ac N cc).ownBlock))
  case atStart => exact ⟨0, rfl, by omega, ⟨by omega⟩, HV0, HWD⟩
  case round =>
    clear HV0 HWD
    obtain ⟨i, rfl, hi, H2I, HV, HG⟩ := hrel
    by_cases hlt : i < N / 2
    ·
      have hlt1 : decide ((i : Int) < (N : Int) / 2) = true := decide_eq_true (by omega)
      have hlt2 : decide (i < N / 2) = true := decide_eq_true hlt
      obtain ⟨p, hp⟩ : ∃ p, p = N - 1 - i := ⟨_, rfl⟩
      have hip : i < p := by omega
      have hpN : p < N := by omega
      have HPE : Aside0 ((N : Int) - 1 - (i : Int) = (p : Int)) := ⟨by omega⟩
      have HPL : Aside0 (p = l.length - 1 - i) := ⟨by rw [HNE.out]; exact hp⟩
      clear hp
      obtain ⟨gc, cap', ev, _, _, _⟩ := Kd.R_form HV.out (by rw [revI_len, HNE.out]; omega)
      rw [revI_len, HNE.out] at ev
      cases ev
      obtain ⟨ac, hac⟩ : ∃ ac : Addr, ac = ⟨gc, 0, none⟩ := ⟨_, rfl⟩
      have HAC := Aside0.mk hac
      have HRL : Aside0 (N = (revI l i).length) := ⟨by rw [revI_len, HNE.out]⟩
      have HCI := Aside0.mk (row_at HV.out HRL.out (i := i) (by omega))
      have HCP := Aside0.mk (row_at HV.out HRL.out (i := p) (by omega))
      have HVI : Aside0 ((revI l i).getD i 0 = l.getD i 0) := ⟨by rw [revI_at l i (by rw [HNE.out]; omega), if_neg (by rw [HNE.out]; omega)]⟩
      have HVP : Aside0 ((revI l i).getD p 0 = l.getD p 0) := ⟨by rw [revI_at l i (by rw [HNE.out]; omega), if_neg (by have := HPL.out; rw [HNE.out] at this ⊢; omega)]⟩
      rw [HVI.out] at HCI
      rw [HVP.out] at HCP
      have HCI2 : Aside0 (wr.cell? (ac.add i) = some (.int .i64 (l.getD i 0))) := ⟨by rw [hac, add_plain]; exact HCI.out.1⟩
      have HCP2 : Aside0 (wr.cell? (ac.add p) = some (.int .i64 (l.getD p 0))) := ⟨by rw [hac, add_plain]; exact HCP.out.1⟩
      have hb2 : (p : Int) < (N : Int) := by omega
      have hb3 : (i : Int) < (N : Int) := by omega
      have HSTEP : Aside0 (((revI l i).set i (l.getD p 0)).set p (l.getD i 0) = revI l (i + 1)) := ⟨revI_step HPL.out hip⟩
      generalize l.getD i 0 = li at *
      generalize l.getD p 0 = lp at *
      go_upto_region 4 with fail
      rw [← hac]
      clear hac
      have hw1 : wrap64 ((N : Int) - 1) = (N : Int) - 1 := by unfold wrap64; omega
      have hw2 : wrap64 ((N : Int) - 1 - (i : Int)) = (p : Int) := by have := HPE.out; clear hw1; unfold wrap64; omega
      have hw3 : IntKind.i64.wrap ((N : Int) - 1) = (N : Int) - 1 := by rw [i64_w]; exact hw1
      have hw4 : IntKind.i64.wrap ((N : Int) - 1 - (i : Int)) = (p : Int) := by rw [i64_w]; exact hw2
      have HD : Aside0 (Below wr.heap.size wr wr.drew) := ⟨(Below.refl _ _).drew⟩
      have HC : Aside0 (∀ W, Below wr.heap.size wr W → W.cell? (ac.add i) = some (.int .i64 li) ∧ W.cell? (ac.add p) = some (.int .i64 lp)) := ⟨fun W hW => ⟨pw_cell_below hW HCI2.out, pw_cell_below hW HCP2.out⟩⟩
      refine start_ (n := 24) (S := fun w' => w'.cell? (ac.add i) = some (.int .i64 li) ∧ w'.cell? (ac.add p) = some (.int .i64 lp)) (ds := [21, 23]) #[false, false, false, false, false, false, false, false, false, false, false, false, false, false, false, false, false, false, false, false, false, false, false, false] (by kernel_rfl) rfl rfl (HC.out _ HD.out) (fun hHeld => ?_)
      refine pure_ (i := 0) (N := some 20) (v := ?_) (a' := ?_) #[true, false, false, false, false, false, false, false, false, false, false, false, false, false, false, false, false, false, false, false, false, false, false, false] rfl rfl (by kernel_rfl) (fun _ _ _ h => h) (Or.inl ⟨by rfl, ?_⟩) ?_ ?_
      rotate_left
      · intro w'
        go_simp
        with_reducible rfl
      rotate_left
      · simp only [Act.put, List.setIfInBounds_toArray, List.set_cons_zero, List.set_cons_succ, i64_w, i32_w]
        rfl
      refine pure_ (i := 1) (N := some 21) (v := ?_) (a' := ?_) #[true, true, false, false, false, false, false, false, false, false, false, false, false, false, false, false, false, false, false, false, false, false, false, false] rfl rfl (by kernel_rfl) (fun _ _ _ h => h) (Or.inl ⟨by rfl, ?_⟩) ?_ ?_
      rotate_left
      · intro w'
        go_simp
        with_reducible rfl
      rotate_left
      · simp only [Act.put, List.setIfInBounds_toArray, List.set_cons_zero, List.set_cons_succ, i64_w, i32_w]
        rfl
      refine pure_ (i := 2) (N := some 22) (v := ?_) (a' := ?_) #[true, true, true, false, false, false, false, false, false, false, false, false, false, false, false, false, false, false, false, false, false, false, false, false] rfl rfl (by kernel_rfl) (fun _ _ _ h => h) (Or.inl ⟨by rfl, ?_⟩) ?_ ?_
      rotate_left
      · intro w'
        go_simp
        with_reducible rfl
      rotate_left
      · simp only [Act.put, List.setIfInBounds_toArray, List.set_cons_zero, List.set_cons_succ, i64_w, i32_w]
        rfl
      refine pure_ (i := 3) (N := some 23) (v := ?_) (a' := ?_) #[true, true, true, true, false, false, false, false, false, false, false, false, false, false, false, false, false, false, false, false, false, false, false, false] rfl rfl (by kernel_rfl) (fun _ _ _ h => h) (Or.inl ⟨by rfl, ?_⟩) ?_ ?_
      rotate_left
      · intro w'
        go_simp
        with_reducible rfl
      rotate_left
      · simp only [Act.put, List.setIfInBounds_toArray, List.set_cons_zero, List.set_cons_succ, i64_w, i32_w]
        rfl
      refine pure_ (i := 4) (N := some 24) (v := ?_) (a' := ?_) #[true, true, true, true, true, false, false, false, false, false, false, false, false, false, false, false, false, false, false, false, false, false, false, false] rfl rfl (by kernel_rfl) (fun _ _ _ h => h) (Or.inl ⟨by rfl, ?_⟩) ?_ ?_
      rotate_left
      · intro w'
        go_simp
        with_reducible rfl
      rotate_left
      · simp only [Act.put, List.setIfInBounds_toArray, List.set_cons_zero, List.set_cons_succ, i64_w, i32_w]
        rfl
      refine pure_ (i := 5) (N := some 25) (v := ?_) (a' := ?_) #[true, true, true, true, true, true, false, false, false, false, false, false, false, false, false, false, false, false, false, false, false, false, false, false] rfl rfl (by kernel_rfl) (fun _ _ _ h => h) (Or.inl ⟨by rfl, ?_⟩) ?_ ?_
      rotate_left
      · intro w'
        go_simp
        with_reducible rfl
      rotate_left
      · simp only [Act.put, List.setIfInBounds_toArray, List.set_cons_zero, List.set_cons_succ, i64_w, i32_w]
        rfl
      refine pure_ (i := 6) (N := some 26) (v := ?_) (a' := ?_) #[true, true, true, true, true, true, true, false, false, false, false, false, false, false, false, false, false, false, false, false, false, false, false, false] rfl rfl (by kernel_rfl) (fun _ _ _ h => h) (Or.inl ⟨by rfl, ?_⟩) ?_ ?_
      rotate_left
      · intro w'
        go_simp
        with_reducible rfl
      rotate_left
      · simp only [Act.put, List.setIfInBounds_toArray, List.set_cons_zero, List.set_cons_succ, i64_w, i32_w]
        rfl
      refine pure_ (i := 7) (N := some 27) (v := ?_) (a' := ?_) #[true, true, true, true, true, true, true, true, false, false, false, false, false, false, false, false, false, false, false, false, false, false, false, false] rfl rfl (by kernel_rfl) (fun _ _ _ h => h) (Or.inl ⟨by rfl, ?_⟩) ?_ ?_
      rotate_left
      · intro w'
        go_simp
        with_reducible rfl
      rotate_left
      · simp only [Act.put, List.setIfInBounds_toArray, List.set_cons_zero, List.set_cons_succ, i64_w, i32_w]
        rfl
      refine pure_ (i := 8) (N := some 28) (v := ?_) (a' := ?_) #[true, true, true, true, true, true, true, true, true, false, false, false, false, false, false, false, false, false, false, false, false, false, false, false] rfl rfl (by kernel_rfl) (fun _ _ _ h => h) (Or.inl ⟨by rfl, ?_⟩) ?_ ?_
      rotate_left
      · intro w'
        go_simp
        with_reducible rfl
      rotate_left
      · simp only [Act.put, List.setIfInBounds_toArray, List.set_cons_zero, List.set_cons_succ, i64_w, i32_w]
        rfl
      refine pure_ (i := 9) (N := some 29) (v := ?_) (a' := ?_) #[true, true, true, true, true, true, true, true, true, true, false, false, false, false, false, false, false, false, false, false, false, false, false, false] rfl rfl (by kernel_rfl) (fun _ _ _ h => h) (Or.inl ⟨by rfl, ?_⟩) ?_ ?_
      rotate_left
      · intro w'
        go_simp
        with_reducible rfl
      rotate_left
      · simp only [Act.put, List.setIfInBounds_toArray, List.set_cons_zero, List.set_cons_succ, i64_w, i32_w]
        rfl
      refine pure_ (i := 10) (N := some 30) (v := ?_) (a' := ?_) #[true, true, true, true, true, true, true, true, true, true, true, false, false, false, false, false, false, false, false, false, false, false, false, false] rfl rfl (by kernel_rfl) (fun _ _ _ h => h) (Or.inl ⟨by rfl, ?_⟩) ?_ ?_
      rotate_left
      · intro w'
        go_simp
        with_reducible rfl
      rotate_left
      · simp only [Act.put, List.setIfInBounds_toArray, List.set_cons_zero, List.set_cons_succ, i64_w, i32_w]
        rfl
      refine pure_ (i := 11) (N := some 31) (v := ?_) (a' := ?_) #[true, true, true, true, true, true, true, true, true, true, true, true, false, false, false, false, false, false, false, false, false, false, false, false] rfl rfl (by kernel_rfl) (fun _ _ _ h => h) (Or.inl ⟨by rfl, ?_⟩) ?_ ?_
      rotate_left
      · intro w'
        go_simp
        with_reducible rfl
      rotate_left
      · simp only [Act.put, List.setIfInBounds_toArray, List.set_cons_zero, List.set_cons_succ, i64_w, i32_w]
        rfl
      refine pure_ (i := 12) (N := some 32) (v := ?_) (a' := ?_) #[true, true, true, true, true, true, true, true, true, true, true, true, true, false, false, false, false, false, false, false, false, false, false, false] rfl rfl (by kernel_rfl) (fun _ _ _ h => h) (Or.inl ⟨by rfl, ?_⟩) ?_ ?_
      rotate_left
      · intro w'
        go_simp
        with_reducible rfl
      rotate_left
      · simp only [Act.put, List.setIfInBounds_toArray, List.set_cons_zero, List.set_cons_succ, i64_w, i32_w]
        rfl
      refine pure_ (i := 13) (N := some 33) (v := ?_) (a' := ?_) #[true, true, true, true, true, true, true, true, true, true, true, true, true, true, false, false, false, false, false, false, false, false, false, false] rfl rfl (by kernel_rfl) (fun _ _ _ h => h) (Or.inl ⟨by rfl, ?_⟩) ?_ ?_
      rotate_left
      · intro w'
        go_simp
        with_reducible rfl
      rotate_left
      · simp only [Act.put, List.setIfInBounds_toArray, List.set_cons_zero, List.set_cons_succ, i64_w, i32_w]
        rfl
      refine pure_ (i := 14) (N := some 34) (v := ?_) (a' := ?_) #[true, true, true, true, true, true, true, true, true, true, true, true, true, true, true, false, false, false, false, false, false, false, false, false] rfl rfl (by kernel_rfl) (fun _ _ _ h => h) (Or.inl ⟨by rfl, ?_⟩) ?_ ?_
      rotate_left
      · intro w'
        go_simp
        with_reducible rfl
      rotate_left
      · simp only [Act.put, List.setIfInBounds_toArray, List.set_cons_zero, List.set_cons_succ, i64_w, i32_w]
        rfl
      refine pure_ (i := 16) (N := some 36) (v := ?_) (a' := ?_) #[true, true, true, true, true, true, true, true, true, true, true, true, true, true, true, false, true, false, false, false, false, false, false, false] rfl rfl (by kernel_rfl) (fun _ _ _ h => h) (Or.inl ⟨by rfl, ?_⟩) ?_ ?_
      rotate_left
      · intro w'
        go_simp
        with_reducible rfl
      rotate_left
      · simp only [Act.put, List.setIfInBounds_toArray, List.set_cons_zero, List.set_cons_succ, i64_w, i32_w]
        rfl
      refine pure_ (i := 17) (N := some 37) (v := ?_) (a' := ?_) #[true, true, true, true, true, true, true, true, true, true, true, true, true, true, true, false, true, true, false, false, false, false, false, false] rfl rfl (by kernel_rfl) (fun _ _ _ h => h) (Or.inl ⟨by rfl, ?_⟩) ?_ ?_
      rotate_left
      · intro w'
        go_simp
        with_reducible rfl
      rotate_left
      · simp only [Act.put, List.setIfInBounds_toArray, List.set_cons_zero, List.set_cons_succ, i64_w, i32_w]
        rfl
      refine pure_ (i := 18) (N := some 38) (v := ?_) (a' := ?_) #[true, true, true, true, true, true, true, true, true, true, true, true, true, true, true, false, true, true, true, false, false, false, false, false] rfl rfl (by kernel_rfl) (fun _ _ _ h => h) (Or.inl ⟨by rfl, ?_⟩) ?_ ?_
      rotate_left
      · intro w'
        go_simp
        with_reducible rfl
      rotate_left
      · simp only [Act.put, List.setIfInBounds_toArray, List.set_cons_zero, List.set_cons_succ, i64_w, i32_w]
        rfl
      refine take_ (i := 15) (N := some 35) (v := ?_) (a' := ?_) #[true, true, true, true, true, true, true, true, true, true, true, true, true, true, true, true, true, true, true, false, false, false, false, false] rfl rfl (by kernel_rfl) (fun _ _ _ h => h) (Or.inl ⟨by rfl, ?_⟩) hHeld ?_ ?_
      rotate_left
      · rintro w' ⟨s0, s1⟩
        go_simp
        with_reducible rfl
      rotate_left
      · simp only [Act.put, List.setIfInBounds_toArray, List.set_cons_zero, List.set_cons_succ, i64_w, i32_w]
        rfl
      refine take_ (i := 19) (N := some 39) (v := ?_) (a' := ?_) #[true, true, true, true, true, true, true, true, true, true, true, true, true, true, true, true, true, true, true, true, false, false, false, false] rfl rfl (by kernel_rfl) (fun _ _ _ h => h) (Or.inl ⟨by rfl, ?_⟩) hHeld ?_ ?_
      rotate_left
      · rintro w' ⟨s0, s1⟩
        go_simp
        with_reducible rfl
      rotate_left
      · simp only [Act.put, List.setIfInBounds_toArray, List.set_cons_zero, List.set_cons_succ, i64_w, i32_w]
        rfl
      refine pure_ (i := 20) (N := some 40) (v := ?_) (a' := ?_) #[true, true, true, true, true, true, true, true, true, true, true, true, true, true, true, true, true, true, true, true, true, false, false, false] rfl rfl (by kernel_rfl) (fun _ _ _ h => h) (Or.inl ⟨by rfl, ?_⟩) ?_ ?_
      rotate_left
      · intro w'
        go_simp
        with_reducible rfl
      rotate_left
      · simp only [Act.put, List.setIfInBounds_toArray, List.set_cons_zero, List.set_cons_succ, i64_w, i32_w]
        rfl
      refine last_ (i := 21) (N := none) #[true, true, true, true, true, true, true, true, true, true, true, true, true, true, true, true, true, true, true, true, true, true, false, false] rfl rfl (by kernel_rfl) (by decide) (fun K hK => ?_)
      have c21 : wr.drew.cell? (ac.add i) = some (.int .i64 li) := HCI2.out
      have f21 : wr.drew.frozen? (ac.add i) = false := by rw [HAC.out, add_plain]; exact HCI.out.2
      refine skip_ (w1 := ?_) (by rfl) rfl ?_ ?_
      rotate_left
      · go_simp
        rfl
      clear c21 f21
      refine hK.out _ _ ?_
      clear hK K
      refine pure_ (i := 22) (N := some 41) (v := ?_) (a' := ?_) #[true, true, true, true, true, true, true, true, true, true, true, true, true, true, true, true, true, true, true, true, true, true, true, false] rfl rfl (by kernel_rfl) (fun _ _ _ h => h) (Or.inl ⟨by rfl, ?_⟩) ?_ ?_
      rotate_left
      · intro w'
        go_simp
        with_reducible rfl
      rotate_left
      · simp only [Act.put, List.setIfInBounds_toArray, List.set_cons_zero, List.set_cons_succ, i64_w, i32_w]
        rfl
      refine last_ (i := 23) (N := none) #[true, true, true, true, true, true, true, true, true, true, true, true, true, true, true, true, true, true, true, true, true, true, true, true] rfl rfl (by kernel_rfl) (by decide) (fun K hK => ?_)
      have HV2 := Aside0.mk (row_put HV.out HRL.out (i := i) (by omega) lp)
      have HC2 := Aside0.mk (row_at HV2.out (by rw [List.length_set]; exact HRL.out) (i := p) (by omega))
      have c23 : (wr.setCell (ac.add i) (.int .i64 lp)).cell? (ac.add p) = some (.int .i64 (((revI l i).set i lp).getD p 0)) := by rw [HAC.out, add_plain, add_plain]; exact HC2.out.1
      have f23 : wr.frozen? (ac.add p) = false := by rw [HAC.out, add_plain]; exact HCP.out.2
      refine skip_ (w1 := ?_) (by rfl) rfl ?_ ?_
      rotate_left
      · go_simp
        rfl
      clear c23 f23
      refine hK.out _ _ ?_
      clear hK K
      refine done_ (by kernel_rfl) ?_
      clear HC HD hw1 hw2 hw3 hw4
      have HV3 := Aside0.mk (row_put HV2.out (by rw [List.length_set]; exact HRL.out) (i := p) (by omega) li)
      replace HV3 := Aside0.mk (Kd.R_drew HV3.out)
      have HVN : Aside0 (((revI l i).set i lp).set p li = revI l (i + 1)) := HSTEP
      rw [HVN.out] at HV3
      have HEA : Aside0 ((wr.setCell (ac.add i) (.int .i64 lp)).setCell (ac.add p) (.int .i64 li) = (wr.setCell ⟨gc, i, none⟩ (.int .i64 lp)).setCell ⟨gc, p, none⟩ (.int .i64 li)) := ⟨by rw [HAC.out, add_plain, add_plain]⟩
      rw [HEA.out]
      have HG3 : Aside0 (w.grownBy (((wr.setCell ⟨gc, i, none⟩ (.int .i64 lp)).setCell ⟨gc, p, none⟩ (.int .i64 li)).drew) (some gc)) := ⟨World.grownBy.trans HG.out ⟨rfl, rfl, rfl, by simp [World.setCell], fun b hb hne => by
        show ((wr.setCell ⟨gc, i, none⟩ (.int .i64 lp)).setCell ⟨gc, p, none⟩ (.int .i64 li)).heap[b]? = _
        rw [Below.heap_setCell _ _ _ b (fun e => hne (by rw [e])), Below.heap_setCell _ _ _ b (fun e => hne (by rw [e]))]⟩⟩
      generalize ((wr.setCell ⟨gc, i, none⟩ (.int .i64 lp)).setCell ⟨gc, p, none⟩ (.int .i64 li)).drew = w9 at *
      rw [HAC.out]
      clear HV2 HC2 HV HG HCI HCP HCI2 HCP2 HEA
      go_wp2_with fail
      go_roundg (N - (i + 1))
      case measure => omega
      case rel => exact ⟨i + 1, by go_num, by omega, ⟨by omega⟩, HV3, HG3⟩
    ·
      have hlt1 : decide ((i : Int) < (N : Int) / 2) = false := decide_eq_false (by omega)
      have hlt2 : decide (i < N / 2) = false := decide_eq_false hlt
      have HEND : Aside0 (revI l i = l.reverse) := ⟨revI_end (by rw [HNE.out]; omega)⟩
      rw [HEND.out] at HV
      clear hi hlt
      go_wp2_with fail
      go_end0
      have hgb := HGB.out
      have hbg := HBG.out
      have hns : ∀ k, (Value.slice Ac N cc).ownBlock = some k → B ≤ k := Kd.R_base HV.out
      have ht := Wr.turn HO.out HE.out HQK.out (by rw [H0.out]) HG.out HV.out
      refine ⟨rfl, ⟨_, f, (blk_grown K4.out HG.out (fun e => by have := hns _ e.symm; omega)), by rw [← HLE.out] at ht; exact ht, hgb, Nat.le_trans HBS.out HG.out.size⟩, pw_below_grown (Below.refl gq w) _ (by have := HBS.out; omega) HG.out (fun k hk => by have := hns k hk; omega)⟩
end Go.Proofs.Ytkeadpichlgagaa.Pla
namespace Go.Proofs.Ytkeadpichlgagaa.Pla
open Go.RowKit Go.Lib Go.Sort Go.Shelf Go.Proofs.YtkeadpichlgagaaW.PrintWords Go.Proofs.YtkeadpichlgagaaW.PrintLast Go.Proofs.YtkeadpichlgagaaW.PrintMore
open Go.Proofs.Ytkeadpichlgagaa.Pl Go.Proofs.Ytkeadpichlgagaa.PlS Go.Proofs.Ytkeadpichlgagaa.Mp
set_option linter.unusedVariables false
set_option linter.unusedSimpArgs false
set_option linter.unnecessarySimpa false
theorem cf38 (args : Array Value) (w : World) : (callFunc 38 args).run Try.prog w = .ok (.enter 38 args) w := by kernel_rfl
theorem sizeN_app (a b : List S51) : sizeN (a ++ b) = sizeN a + sizeN b := by unfold sizeN; rw [List.map_append, List.sum_append]
theorem sizeN_cons (x : S51) (b : List S51) : sizeN (x :: b) = 1 + x.f0.length + x.f1.length + sizeN b := by unfold sizeN; rw [List.map_cons, List.sum_cons]
theorem sizeN_set {ws : List S51} {k : Nat} (hk : k < ws.length) (x : S51) : sizeN (ws.set k x) + (ws[k].f0.length + ws[k].f1.length) = sizeN ws + (x.f0.length + x.f1.length) := by
  rw [set_split hk, sizeN_app, sizeN_cons]
  have := congrArg sizeN (self_split hk)
  rw [sizeN_app, sizeN_cons] at this
  omega
theorem sizeN_bd : ∀ ws : List S51, ws.length ≤ sizeN ws ∧ (∀ x ∈ ws, x.f0.length + x.f1.length ≤ sizeN ws) ∧ (clus ws).length ≤ sizeN ws
  | [] => by simp [sizeN, clus]
  | x :: l => by
    obtain ⟨a, b, c⟩ := sizeN_bd l
    rw [sizeN_cons, clus_cons, List.length_append, List.length_cons]
    refine ⟨by omega, fun y hy => ?_, by omega⟩
    rcases List.mem_cons.1 hy with rfl | hy
    · omega
    · have := b y hy; omega
def sizeI : Int → List S51 → Int
  | a, [] => a
  | a, x :: r => sizeI (wrap64 (wrap64 (wrap64 (a + 1) + (x.f0.length : Int)) + (x.f1.length : Int))) r
theorem sizeI_in (b d : Int) (ws : List S51) (hl : ws.length ≤ 4611686018427387904) : ∀ m i : Nat, i + m = ws.length → ∀ a : Int, Ev (fun k => echelonref15_Size.l0 k a (i : Int) b d ws) (sizeI a (ws.drop i))
  | 0, i, h, a => by
    rw [List.drop_of_length_le (by omega)]
    exact Ev.step (f := fun _ => some a) (fun k => by simp only [echelonref15_Size.l0]; rw [if_neg (by omega)]) (Ev.now _)
  | m + 1, i, h, a => by
    have hlt : i < ws.length := by omega
    rw [List.drop_eq_getElem_cons hlt]
    exact Ev.step (fun k => by simp only [echelonref15_Size.l0]; rw [if_pos (by omega), if_pos (by omega), at51 ws hlt, inc i (by omega)]) (sizeI_in b d ws hl m (i + 1) (by omega) _)
theorem size2_calls (b d : Int) (A : Option Addr) (c : Nat) (ws : List S51) (w : World) (hC : k51.C w A ws.length ws) (hcap : ws.length ≤ c) (hl : ws.length ≤ 4611686018427387904) :
    Calls Try.prog 28 #[.agg #[.int .i64 b, .int .i64 d, .slice A ws.length c]] w fun e w' => e = .returned (.int .i64 (sizeI 0 ws)) ∧ Below w.heap.size w w' := by
  have h := sizeI_in b d ws hl ws.length 0 (by omega) 0
  rw [List.drop_zero] at h
  obtain ⟨k, hk⟩ := h.rounds
  exact echelonref15_Size.calls k b d A c ws _ w hC hcap hk
theorem sizeI_eq : ∀ (ws : List S51) (a : Nat), a + sizeN ws ≤ 4611686018427387904 → sizeI (a : Int) ws = ((a + sizeN ws : Nat) : Int)
  | [], a, _ => by simp [sizeI, sizeN]
  | x :: r, a, h => by
    rw [sizeN_cons] at h ⊢
    have e1 : wrap64 ((a : Int) + 1) = ((a + 1 : Nat) : Int) := by unfold wrap64; omega
    have e2 : wrap64 (((a + 1 : Nat) : Int) + (x.f0.length : Int)) = ((a + 1 + x.f0.length : Nat) : Int) := by unfold wrap64; omega
    have e3 : wrap64 (((a + 1 + x.f0.length : Nat) : Int) + (x.f1.length : Int)) = ((a + (1 + x.f0.length + x.f1.length) : Nat) : Int) := by unfold wrap64; omega
    unfold sizeI
    rw [e1, e2, e3, sizeI_eq r _ (by omega)]
    omega
theorem sizeN_few : ∀ ws : List S51, (∀ x ∈ ws, x.f0.length ≤ 1000000000000000 ∧ x.f1.length ≤ 1000000000000000) → sizeN ws ≤ ws.length * 2000000000000001
  | [], _ => by simp [sizeN]
  | x :: r, h => by
    have h1 := h x List.mem_cons_self
    have h2 := sizeN_few r (fun y hy => h y (List.mem_cons_of_mem _ hy))
    rw [sizeN_cons, List.length_cons, Nat.add_mul]
    omega
set_option maxHeartbeats 4000000 in
set_option maxRecDepth 100000 in
theorem rcheck_many (b d : Int) (A : Option Addr) (c : Nat) (ws : List S51) (w : World) (hm : 64 < ws.length) :
    Calls Try.prog 31 #[.agg #[.int .i64 b, .int .i64 d, .slice A ws.length c]] w fun e w' => e = .returned (.int .i64 2) ∧ Below w.heap.size w w' := by
  have HB : Aside0 (Below w.heap.size w w) := ⟨Below.refl _ _⟩
  have hm' : (64 : Int) < (ws.length : Int) := by omega
  go_enter Try.func31, Try.ntmps31
  go_upto_region 1 with fail
  have hbx : Below w.heap.size w (w.alloc (Obj.cells #[.int .i64 b, .int .i64 d, .slice A ws.length c] 43)) := (Below.refl _ w).alloc (Nat.le_refl _) _
  have K1 := Aside0.mk (grown_new (w := w) #[.int .i64 b, .int .i64 d, .slice A ws.length c] 43)
  obtain ⟨b1, hb1⟩ : ∃ b, w.heap.size = b := ⟨_, rfl⟩
  replace HB := Aside0.mk (HB.out.trans (hbx.mono HB.out.size))
  clear hbx
  generalize w.alloc (Obj.cells #[.int .i64 b, .int .i64 d, .slice A ws.length c] 43) = w1 at *
  rw [hb1] at K1 ⊢
  clear hb1
  have K1c0 := (blk_cell K1.out 0).trans (show _ = some (.int .i64 b) from rfl)
  have K1c1 := (blk_cell K1.out 1).trans (show _ = some (.int .i64 d) from rfl)
  have K1c2 := (blk_cell K1.out 2).trans (show _ = some (.slice A ws.length c) from rfl)
  by_cases h0 : b < 1
  ·
    have d0 : decide (b < 1) = true := decide_eq_true h0
    clear h0
    go_wp2_with fail
    go_ret
    exact ⟨rfl, HB.out⟩
  ·
    have d0 : decide (b < 1) = false := decide_eq_false h0
    clear h0
    by_cases h1 : 65535 < b
    ·
      have d1 : decide (65535 < b) = true := decide_eq_true h1
      clear h1
      go_wp2_with fail
      go_ret
      exact ⟨rfl, HB.out⟩
    ·
      have d1 : decide (65535 < b) = false := decide_eq_false h1
      clear h1
      by_cases h2 : d < 0
      ·
        have d2 : decide (d < 0) = true := decide_eq_true h2
        clear h2
        go_wp2_with fail
        go_ret
        exact ⟨rfl, HB.out⟩
      ·
        have d2 : decide (d < 0) = false := decide_eq_false h2
        clear h2
        by_cases h3 : 65535 < d
        ·
          have d3 : decide (65535 < d) = true := decide_eq_true h3
          clear h3
          go_wp2_with fail
          go_ret
          exact ⟨rfl, HB.out⟩
        ·
          have d3 : decide (65535 < d) = false := decide_eq_false h3
          clear h3
          by_cases h4 : (ws.length : Int) < 1
          ·
            have d4 : decide ((ws.length : Int) < 1) = true := decide_eq_true h4
            clear h4
            go_wp2_with fail
            go_ret
            exact ⟨rfl, HB.out⟩
          ·
            have d4 : decide ((ws.length : Int) < 1) = false := decide_eq_false h4
            clear h4
            have d5 : decide ((64 : Int) < (ws.length : Int)) = true := decide_eq_true hm'
            go_wp2_with fail
            go_ret
            exact ⟨rfl, HB.out⟩
set_option maxHeartbeats 8000000 in
set_option maxRecDepth 100000 in
theorem turns_law (A : Option Addr) (c : Nat) (b d : Int) (ws : List S51) (bud pick : Int) (w : World) (hC : k51.C w A ws.length ws) (hcap : ws.length ≤ c) (hwn : ws.length ≤ 100000000000000) (hwr : ∀ x ∈ ws, x.f0.length ≤ 1000000000000000 ∧ x.f1.length ≤ 1000000000000000) :
    Calls Try.prog 9 #[.agg #[.int .i64 b, .int .i64 d, .slice A ws.length c], .int .i64 bud, .int .i64 pick] w fun e w' => e = .returned (.bool true) ∧ Below w.heap.size w w' := by
  have HCC := Aside0.mk hC
  have HWN := Aside0.mk hwn
  have HWR := Aside0.mk hwr
  have hcf := cf38
  have HB : Aside0 (Below w.heap.size w w) := ⟨Below.refl _ _⟩
  clear hC hwn hwr
  go_enter Try.func9, Try.ntmps9
  go_upto_region 1 with fail
  have hbx : Below w.heap.size w ((w.alloc (Obj.cells #[.int .i64 b, .int .i64 d, .slice A ws.length c] 43)).alloc (Obj.cells #[.int .i64 bud] 3)) := ((Below.refl _ w).alloc (Nat.le_refl _) _).alloc (by simp only [World.size_alloc]; omega) _
  have K1 := Aside0.mk (blk_alloc (grown_new (w := w) #[.int .i64 b, .int .i64 d, .slice A ws.length c] 43) (Obj.cells #[.int .i64 bud] 3))
  have K2 := Aside0.mk (grown_new (w := (w.alloc (Obj.cells #[.int .i64 b, .int .i64 d, .slice A ws.length c] 43))) #[.int .i64 bud] 3)
  simp only [World.size_alloc] at K2
  replace HB := Aside0.mk (HB.out.trans (hbx.mono HB.out.size))
  clear hbx
  generalize ((w.alloc (Obj.cells #[.int .i64 b, .int .i64 d, .slice A ws.length c] 43)).alloc (Obj.cells #[.int .i64 bud] 3)) = w1 at *
  obtain ⟨bb, hbb⟩ : ∃ b, w.heap.size + 1 = b := ⟨_, rfl⟩
  rw [hbb] at K2 ⊢
  clear hbb
  obtain ⟨bp, hbp⟩ : ∃ b, w.heap.size = b := ⟨_, rfl⟩
  rw [hbp] at K1 ⊢
  clear hbp
  go_wp2_with fail
  refine (awake_calls w1).mono ?_
  rintro e w2 ⟨rfl, hb⟩
  replace K1 := Aside0.mk (blk_below K1.out hb)
  replace K2 := Aside0.mk (blk_below K2.out hb)
  replace HB := Aside0.mk (HB.out.trans (hb.mono HB.out.size))
  clear hb
  have K1c0 := (blk_cell K1.out 0).trans (show _ = some (.int .i64 b) from rfl)
  have K1c1 := (blk_cell K1.out 1).trans (show _ = some (.int .i64 d) from rfl)
  have K1c2 := (blk_cell K1.out 2).trans (show _ = some (.slice A ws.length c) from rfl)
  go_wp2_with fail
  refine (size2_calls b d A c ws w2 (Kd.C_below HCC.out HB.out) hcap (by have := HWN.out; omega)).mono ?_
  rintro e w3 ⟨rfl, hb⟩
  clear K1c0 K1c1 K1c2
  replace K1 := Aside0.mk (blk_below K1.out hb)
  replace K2 := Aside0.mk (blk_below K2.out hb)
  replace HB := Aside0.mk (HB.out.trans (hb.mono HB.out.size))
  clear hb
  generalize hsv : sizeI 0 ws = sv
  have HSV := Aside0.mk hsv
  clear hsv
  by_cases h3 : 300 < sv
  ·
    have d3 : decide (300 < sv) = true := decide_eq_true h3
    go_wp2_with fail
    refine (awake_calls _).mono ?_
    rintro e w30 ⟨rfl, hb⟩
    replace K1 := Aside0.mk (blk_below K1.out hb)
    replace K2 := Aside0.mk (blk_below K2.out hb)
    replace HB := Aside0.mk (HB.out.trans (hb.mono HB.out.size))
    clear hb
    go_wp2_with fail
    go_ret
    exact ⟨rfl, HB.out⟩
  ·
    have d3 : decide (300 < sv) = false := decide_eq_false h3
    have K1c0 := (blk_cell K1.out 0).trans (show _ = some (.int .i64 b) from rfl)
    have K1c1 := (blk_cell K1.out 1).trans (show _ = some (.int .i64 d) from rfl)
    have K1c2 := (blk_cell K1.out 2).trans (show _ = some (.slice A ws.length c) from rfl)
    go_wp2_with fail
    clear d3
    by_cases hm : 64 < ws.length
    ·
      refine (rcheck_many b d A c ws w3 hm).mono ?_
      rintro e w4 ⟨rfl, hb⟩
      clear K1c0 K1c1 K1c2
      replace K1 := Aside0.mk (blk_below K1.out hb)
      replace K2 := Aside0.mk (blk_below K2.out hb)
      replace HB := Aside0.mk (HB.out.trans (hb.mono HB.out.size))
      clear hb
      go_wp2_with fail
      refine (awake_calls _).mono ?_
      rintro e w32 ⟨rfl, hb⟩
      replace K1 := Aside0.mk (blk_below K1.out hb)
      replace K2 := Aside0.mk (blk_below K2.out hb)
      replace HB := Aside0.mk (HB.out.trans (hb.mono HB.out.size))
      clear hb
      go_wp2_with fail
      go_ret
      exact ⟨rfl, HB.out⟩
    ·
      have hsz : sizeN ws ≤ 300 := by
        have h1 := sizeN_few ws HWR.out
        have h2 := sizeI_eq ws 0 (by omega)
        have h4 := HSV.out
        rw [show ((0 : Nat) : Int) = 0 from rfl] at h2
        rw [h2] at h4
        omega
      have HZ := Aside0.mk (psz_of (ws := ws) (by omega))
      have HSZ : Aside0 (sizeN ws ≤ 300) := ⟨hsz⟩
      clear hsz hm h3
      refine (rcheck_calls b d A c ws w3 (Kd.C_below HCC.out HB.out) hcap HZ.out).mono ?_
      rintro e w4 ⟨rfl, hb⟩
      clear K1c0 K1c1 K1c2
      replace K1 := Aside0.mk (blk_below K1.out hb)
      replace K2 := Aside0.mk (blk_below K2.out hb)
      replace HB := Aside0.mk (HB.out.trans (hb.mono HB.out.size))
      clear hb
      by_cases h4 : checkF b d ws = 0
      ·
        have HOK := Aside0.mk h4
        have d4 : (checkF b d ws != 0) = false := by rw [h4]; rfl
        clear h4
        have HN := Aside0.mk (check_ok HOK.out).2.2.1
        have hn1 : 1 ≤ ws.length := HN.out.1
        have hn2 : ws.length ≤ 64 := HN.out.2
        obtain ⟨N, hN⟩ : ∃ N, ws.length = N := ⟨_, rfl⟩
        have HNN := Aside0.mk hN
        have tp1 : pick.tmod (N : Int) < (N : Int) := Int.tmod_lt_of_pos pick (by omega)
        have tp2 : -(N : Int) < pick.tmod (N : Int) := by have := Int.tmod_lt_of_pos (-pick) (show (0 : Int) < (N : Int) by omega); rw [Int.neg_tmod] at this; omega
        rw [hN] at hn1 hn2 hcap K1 ⊢
        clear hN
        go_upto_region 3 with fail
        clear d4
        have HD : Aside0 (Below w4.heap.size w4 w4.drew) := ⟨(Below.refl _ _).drew⟩
        have HC : Aside0 (∀ W, Below w4.heap.size w4 W → W.cell? ⟨bp, 2, none⟩ = some (.slice A N c)) := ⟨fun W hW => (blk_cell (blk_below K1.out hW) 2).trans rfl⟩
        have HNZ : (N = 0) = False := by simp; omega
        have hn0 : (0 : Int) < (N : Int) := by omega
        refine start_ (n := 15) (S := fun w' => w'.cell? ⟨bp, 2, none⟩ = some (.slice A N c)) (ds := [14]) #[false, false, false, false, false, false, false, false, false, false, false, false, false, false, false] (by kernel_rfl) rfl rfl (HC.out _ HD.out) (fun hHeld => ?_)
        refine pure_ (i := 0) (N := some 28) (v := ?_) (a' := ?_) #[true, false, false, false, false, false, false, false, false, false, false, false, false, false, false] rfl rfl (by kernel_rfl) (fun _ _ _ h => h) (Or.inl ⟨by rfl, ?_⟩) ?_ ?_
        rotate_left
        · intro w'
          go_simp
          with_reducible rfl
        rotate_left
        · simp only [Act.put, List.setIfInBounds_toArray, List.set_cons_zero, List.set_cons_succ, i64_w, i32_w]
          rfl
        refine pure_ (i := 1) (N := some 29) (v := ?_) (a' := ?_) #[true, true, false, false, false, false, false, false, false, false, false, false, false, false, false] rfl rfl (by kernel_rfl) (fun _ _ _ h => h) (Or.inl ⟨by rfl, ?_⟩) ?_ ?_
        rotate_left
        · intro w'
          go_simp
          with_reducible rfl
        rotate_left
        · simp only [Act.put, List.setIfInBounds_toArray, List.set_cons_zero, List.set_cons_succ, i64_w, i32_w]
          rfl
        refine pure_ (i := 5) (N := some 33) (v := ?_) (a' := ?_) #[true, true, false, false, false, true, false, false, false, false, false, false, false, false, false] rfl rfl (by kernel_rfl) (fun _ _ _ h => h) (Or.inl ⟨by rfl, ?_⟩) ?_ ?_
        rotate_left
        · intro w'
          go_simp
          with_reducible rfl
        rotate_left
        · simp only [Act.put, List.setIfInBounds_toArray, List.set_cons_zero, List.set_cons_succ, i64_w, i32_w]
          rfl
        refine pure_ (i := 9) (N := some 37) (v := ?_) (a' := ?_) #[true, true, false, false, false, true, false, false, false, true, false, false, false, false, false] rfl rfl (by kernel_rfl) (fun _ _ _ h => h) (Or.inl ⟨by rfl, ?_⟩) ?_ ?_
        rotate_left
        · intro w'
          go_simp
          with_reducible rfl
        rotate_left
        · simp only [Act.put, List.setIfInBounds_toArray, List.set_cons_zero, List.set_cons_succ, i64_w, i32_w]
          rfl
        refine take_ (i := 2) (N := some 30) (v := ?_) (a' := ?_) #[true, true, true, false, false, true, false, false, false, true, false, false, false, false, false] rfl rfl (by kernel_rfl) (fun _ _ _ h => h) (Or.inl ⟨by rfl, ?_⟩) hHeld ?_ ?_
        rotate_left
        · intro w' s0
          go_simp
          with_reducible rfl
        rotate_left
        · simp only [Act.put, List.setIfInBounds_toArray, List.set_cons_zero, List.set_cons_succ, i64_w, i32_w]
          rfl
        refine pure_ (i := 3) (N := some 31) (v := ?_) (a' := ?_) #[true, true, true, true, false, true, false, false, false, true, false, false, false, false, false] rfl rfl (by kernel_rfl) (fun _ _ _ h => h) (Or.inl ⟨by rfl, ?_⟩) ?_ ?_
        rotate_left
        · intro w'
          go_simp
          with_reducible rfl
        rotate_left
        · simp only [Act.put, List.setIfInBounds_toArray, List.set_cons_zero, List.set_cons_succ, i64_w, i32_w]
          rfl
        refine pure_ (i := 4) (N := some 32) (v := ?_) (a' := ?_) #[true, true, true, true, true, true, false, false, false, true, false, false, false, false, false] rfl rfl (by kernel_rfl) (fun _ _ _ h => h) (Or.inl ⟨by rfl, ?_⟩) ?_ ?_
        rotate_left
        · intro w'
          go_simp
          with_reducible rfl
        rotate_left
        · simp only [Act.put, List.setIfInBounds_toArray, List.set_cons_zero, List.set_cons_succ, i64_w, i32_w]
          rfl
        refine take_ (i := 6) (N := some 34) (v := ?_) (a' := ?_) #[true, true, true, true, true, true, true, false, false, true, false, false, false, false, false] rfl rfl (by kernel_rfl) (fun _ _ _ h => h) (Or.inl ⟨by rfl, ?_⟩) hHeld ?_ ?_
        rotate_left
        · intro w' s0
          go_simp
          with_reducible rfl
        rotate_left
        · simp only [Act.put, List.setIfInBounds_toArray, List.set_cons_zero, List.set_cons_succ, i64_w, i32_w]
          rfl
        refine pure_ (i := 7) (N := some 35) (v := ?_) (a' := ?_) #[true, true, true, true, true, true, true, true, false, true, false, false, false, false, false] rfl rfl (by kernel_rfl) (fun _ _ _ h => h) (Or.inl ⟨by rfl, ?_⟩) ?_ ?_
        rotate_left
        · intro w'
          go_simp
          with_reducible rfl
        rotate_left
        · simp only [Act.put, List.setIfInBounds_toArray, List.set_cons_zero, List.set_cons_succ, i64_w, i32_w]
          rfl
        refine pure_ (i := 8) (N := some 36) (v := ?_) (a' := ?_) #[true, true, true, true, true, true, true, true, true, true, false, false, false, false, false] rfl rfl (by kernel_rfl) (fun _ _ _ h => h) (Or.inl ⟨by rfl, ?_⟩) ?_ ?_
        rotate_left
        · intro w'
          go_simp
          with_reducible rfl
        rotate_left
        · simp only [Act.put, List.setIfInBounds_toArray, List.set_cons_zero, List.set_cons_succ, i64_w, i32_w]
          rfl
        refine take_ (i := 10) (N := some 38) (v := ?_) (a' := ?_) #[true, true, true, true, true, true, true, true, true, true, true, false, false, false, false] rfl rfl (by kernel_rfl) (fun _ _ _ h => h) (Or.inl ⟨by rfl, ?_⟩) hHeld ?_ ?_
        rotate_left
        · intro w' s0
          go_simp
          with_reducible rfl
        rotate_left
        · simp only [Act.put, List.setIfInBounds_toArray, List.set_cons_zero, List.set_cons_succ, i64_w, i32_w]
          rfl
        refine pure_ (i := 11) (N := some 39) (v := ?_) (a' := ?_) #[true, true, true, true, true, true, true, true, true, true, true, true, false, false, false] rfl rfl (by kernel_rfl) (fun _ _ _ h => h) (Or.inl ⟨by rfl, ?_⟩) ?_ ?_
        rotate_left
        · intro w'
          go_simp
          with_reducible rfl
        rotate_left
        · simp only [Act.put, List.setIfInBounds_toArray, List.set_cons_zero, List.set_cons_succ, i64_w, i32_w]
          rfl
        refine pure_ (i := 12) (N := some 40) (v := ?_) (a' := ?_) #[true, true, true, true, true, true, true, true, true, true, true, true, true, false, false] rfl rfl (by kernel_rfl) (fun _ _ _ h => h) (Or.inl ⟨by rfl, ?_⟩) ?_ ?_
        rotate_left
        · intro w'
          go_simp
          with_reducible rfl
        rotate_left
        · simp only [Act.put, List.setIfInBounds_toArray, List.set_cons_zero, List.set_cons_succ, i64_w, i32_w]
          rfl
        refine one_ (i := 13) (N := some 7) #[true, true, true, true, true, true, true, true, true, true, true, true, true, true, false] rfl rfl (by kernel_rfl) (by decide) (fun K hK => ?_)
        refine value_ (w1 := ?_) (v := ?_) (by rfl) rfl ?_ ?_
        rotate_left 2
        · go_simp
          constructor
          · rfl
          · rfl
        have hb : Below w4.drew.heap.size w4.drew (w4.drew.alloc (Obj.cells #[.int .i64 0] 3)) := (Below.refl _ w4.drew).alloc (Nat.le_refl _) _
        have K7 := Aside0.mk (grown_new (w := w4.drew) #[.int .i64 0] 3)
        replace HD := Aside0.mk (HD.out.trans (hb.mono HD.out.size))
        clear hb
        refine hK.out _ _ (HC.out _ HD.out) (fun hHeld => ?_)
        clear hK K
        refine norm_ (a' := ?_) ?_ ?_
        rotate_left
        · show Act.put _ (some 7) _ = _
          simp only [Act.put, List.setIfInBounds_toArray, List.set_cons_zero, List.set_cons_succ, i64_w, i32_w]
          rfl
        refine last_ (i := 14) (N := none) #[true, true, true, true, true, true, true, true, true, true, true, true, true, true, true] rfl rfl (by kernel_rfl) (by decide) (fun K hK => ?_)
        have c7 := (blk_cell K7.out 0).trans (show _ = some (Value.int .i64 0) from rfl)
        have f7 := blk_frozen K7.out 0
        refine skip_ (w1 := ?_) (by rfl) rfl ?_ ?_
        rotate_left
        · go_simp
          rfl
        clear c7 f7
        refine hK.out _ _ ?_
        clear hK K
        refine done_ (by kernel_rfl) ?_
        clear HC HD HNZ
        have hk0 : 0 ≤ (wrap64 (pick.tmod (N : Int) + (N : Int))).tmod (N : Int) := Int.tmod_nonneg _ (by unfold wrap64; omega)
        have hk1 : (wrap64 (pick.tmod (N : Int) + (N : Int))).tmod (N : Int) < (N : Int) := Int.tmod_lt_of_pos _ hn0
        obtain ⟨k, hk⟩ : ∃ k : Nat, (wrap64 (pick.tmod (N : Int) + (N : Int))).tmod (N : Int) = (k : Int) := ⟨((wrap64 (pick.tmod (N : Int) + (N : Int))).tmod (N : Int)).toNat, by omega⟩
        have hkN : k < N := by omega
        clear K7
        rw [hk]
        generalize wrap64 (pick.tmod (N : Int) + (N : Int)) = z1 at *
        generalize pick.tmod (N : Int) = z2 at *
        clear hk hk0 hk1 tp1 tp2
        have hbx : Below w4.heap.size w4 (w4.alloc (Obj.cells #[.int .i64 (k : Int)] 3)).drew := ((Below.refl _ w4).alloc (Nat.le_refl _) _).drew
        have K7 : Aside0 ((w4.alloc (Obj.cells #[.int .i64 (k : Int)] 3)).drew.heap[w4.heap.size]? = some (.cells #[.int .i64 (k : Int)] 3 (0, 0))) := ⟨grown_new (w := w4) #[.int .i64 (k : Int)] 3⟩
        obtain ⟨kb, hkb⟩ : ∃ b, w4.heap.size = b := ⟨_, rfl⟩
        replace K1 := Aside0.mk (blk_below K1.out hbx)
        replace K2 := Aside0.mk (blk_below K2.out hbx)
        replace HB := Aside0.mk (HB.out.trans (hbx.mono HB.out.size))
        clear hbx
        generalize (w4.alloc (Obj.cells #[.int .i64 (k : Int)] 3)).drew = w5 at *
        rw [hkb] at K7 ⊢
        clear hkb
        have hkw : k < ws.length := by rw [HNN.out]; exact hkN
        have HB0 := Aside0.mk (bad_parts (bad_at (check_ok HOK.out).2.2.2.1 (k := 0) (by rw [HNN.out]; omega)))
        have h0w : 0 < ws.length := by rw [HNN.out]; omega
        have h0f : 0 < ws[0].f1.length := by have := HB0.out.2.1; omega
        have HSB := Aside0.mk (sizeN_bd ws)
        have hkl : ws[k].f0.length + ws[k].f1.length ≤ 300 := by have := HSB.out.2.1 _ (List.getElem_mem hkw); have := HSZ.out; omega
        have HPS : Aside0 (∀ x : S51, x.f0.length + x.f1.length ≤ 1000 → Psz (ws.set k x)) := ⟨fun x hx => psz_of (by have := sizeN_set hkw x; have := HSZ.out; omega)⟩
        have hnl : ws.length ≤ 10000 := by rw [HNN.out]; omega
        have HCM : Aside0 (ws[0].f1[0] ∈ clus ws) := ⟨mem_clus (List.getElem_mem h0w) (List.getElem_mem h0f)⟩
        have HCL : Aside0 ((clus ws).length < 65535) := ⟨by have := HSB.out.2.2; have := HSZ.out; omega⟩
        have TA := Aside0.mk (turn_a HOK.out bud)
        have TB := Aside0.mk (turn_b HOK.out hkw)
        have TC := Aside0.mk (turn_c HOK.out hkw HCM.out HCL.out)
        have TD := Aside0.mk (turn_d HOK.out hkw (.inl rfl))
        have TE := Aside0.mk (turn_e (b := b) (d := d) hkw)
        have TF := Aside0.mk (turn_d HOK.out hkw (.inr rfl))
        have hpk : pick = pick := rfl
        clear hpk
        go_wp2_with fail
        refine (turn_calls1 b d A c ws bud ws 39 bp (.pointer (some ⟨bb, 0, none⟩)) w5 (by rw [HNN.out]; exact K1.out) (Kd.C_below HCC.out HB.out) (by rw [HNN.out]; exact hcap) HZ.out HZ.out (by first | exact hnl | (simp; omega)) cf39 (chg39 w5 b d bud ws bb K2.out)).mono ?_
        rintro e w6 ⟨rfl, hb⟩
        rw [TA.out]
        replace K1 := Aside0.mk (blk_below K1.out hb)
        replace K2 := Aside0.mk (blk_below K2.out hb)
        replace K7 := Aside0.mk (blk_below K7.out hb)
        replace HB := Aside0.mk (HB.out.trans (hb.mono HB.out.size))
        clear hb
        generalize hva : (if 1 ≤ bud ∧ bud ≤ 65535 then (0 : Int) else 2) = va
        have HVA := Aside0.mk hva
        clear hva
        go_wp2_with fail
        refine (turn_calls1 b d A c ws b (ws.set k ⟨ws[k].f0, ws[k].f1.reverse, ws[k].f2⟩) 40 bp (.pointer (some ⟨kb, 0, none⟩)) w6 (by rw [HNN.out]; exact K1.out) (Kd.C_below HCC.out HB.out) (by rw [HNN.out]; exact hcap) HZ.out (HPS.out _ (by simp; omega)) (by first | exact hnl | (simp; omega)) cf40 (chg40 w6 b d ws k kb hkw (by omega) (by omega) K7.out)).mono ?_
        rintro e w7 ⟨rfl, hb⟩
        rw [TB.out]
        replace K1 := Aside0.mk (blk_below K1.out hb)
        replace K2 := Aside0.mk (blk_below K2.out hb)
        replace K7 := Aside0.mk (blk_below K7.out hb)
        replace HB := Aside0.mk (HB.out.trans (hb.mono HB.out.size))
        clear hb
        go_wp2_with fail
        refine (turn_calls2 b d A c ws b (ws.set k ⟨ws[k].f0, ws[k].f1 ++ [ws[0].f1[0]], ws[k].f2⟩) 41 bp (.pointer (some ⟨kb, 0, none⟩)) (.pointer (some ⟨bp, 0, none⟩)) w7 (by rw [HNN.out]; exact K1.out) (Kd.C_below HCC.out HB.out) (by rw [HNN.out]; exact hcap) HZ.out (HPS.out _ (by simp; omega)) (by first | exact hnl | (simp; omega)) cf41 (chg41 w7 b d ws k kb hkw (by omega) (by omega) K7.out bp A c (by rw [HNN.out]; exact K1.out) (Kd.C_below HCC.out HB.out) h0w h0f)).mono ?_
        rintro e w8 ⟨rfl, hb⟩
        rw [TC.out]
        replace K1 := Aside0.mk (blk_below K1.out hb)
        replace K2 := Aside0.mk (blk_below K2.out hb)
        replace K7 := Aside0.mk (blk_below K7.out hb)
        replace HB := Aside0.mk (HB.out.trans (hb.mono HB.out.size))
        clear hb
        go_wp2_with fail
        refine (turn_calls2 b d A c ws b (ws.set k ⟨ws[k].f0 ++ [(ws.length : Int)], ws[k].f1, ws[k].f2⟩) 42 bp (.pointer (some ⟨kb, 0, none⟩)) (.pointer (some ⟨bp, 0, none⟩)) w8 (by rw [HNN.out]; exact K1.out) (Kd.C_below HCC.out HB.out) (by rw [HNN.out]; exact hcap) HZ.out (HPS.out _ (by simp; omega)) (by first | exact hnl | (simp; omega)) cf42 (chg42 w8 b d ws k kb hkw (by omega) (by omega) K7.out bp A c (by rw [HNN.out]; exact K1.out))).mono ?_
        rintro e w9 ⟨rfl, hb⟩
        rw [TD.out]
        replace K1 := Aside0.mk (blk_below K1.out hb)
        replace K2 := Aside0.mk (blk_below K2.out hb)
        replace K7 := Aside0.mk (blk_below K7.out hb)
        replace HB := Aside0.mk (HB.out.trans (hb.mono HB.out.size))
        clear hb
        go_wp2_with fail
        refine (turn_calls1 b d A c ws b (ws.set k ⟨ws[k].f0, [], ws[k].f2⟩) 43 bp (.pointer (some ⟨kb, 0, none⟩)) w9 (by rw [HNN.out]; exact K1.out) (Kd.C_below HCC.out HB.out) (by rw [HNN.out]; exact hcap) HZ.out (HPS.out _ (by simp; omega)) (by first | exact hnl | (simp; omega)) cf43 (chg43 w9 b d ws k kb hkw (by omega) (by omega) K7.out)).mono ?_
        rintro e w10 ⟨rfl, hb⟩
        rw [TE.out]
        replace K1 := Aside0.mk (blk_below K1.out hb)
        replace K2 := Aside0.mk (blk_below K2.out hb)
        replace K7 := Aside0.mk (blk_below K7.out hb)
        replace HB := Aside0.mk (HB.out.trans (hb.mono HB.out.size))
        clear hb
        go_wp2_with fail
        refine (turn_calls1 b d A c ws b (ws.set k ⟨ws[k].f0 ++ [(k : Int)], ws[k].f1, ws[k].f2⟩) 44 bp (.pointer (some ⟨kb, 0, none⟩)) w10 (by rw [HNN.out]; exact K1.out) (Kd.C_below HCC.out HB.out) (by rw [HNN.out]; exact hcap) HZ.out (HPS.out _ (by simp; omega)) (by first | exact hnl | (simp; omega)) cf44 (chg44 w10 b d ws k kb hkw (by omega) (by omega) K7.out)).mono ?_
        rintro e w11 ⟨rfl, hb⟩
        rw [TF.out]
        replace K1 := Aside0.mk (blk_below K1.out hb)
        replace K2 := Aside0.mk (blk_below K2.out hb)
        replace K7 := Aside0.mk (blk_below K7.out hb)
        replace HB := Aside0.mk (HB.out.trans (hb.mono HB.out.size))
        clear hb
        clear TA TB TC TD TE TF HPS HSB HB0
        by_cases hb1 : 1 ≤ bud
        ·
          have d5 : decide (1 ≤ bud) = true := decide_eq_true hb1
          by_cases hb2 : bud ≤ 65535
          ·
            have d6 : decide (bud ≤ 65535) = true := decide_eq_true hb2
            obtain rfl : 0 = va := by rw [← HVA.out, if_pos ⟨hb1, hb2⟩]
            clear hb1 hb2
            have K2c0 := (blk_cell K2.out 0).trans (show _ = some (.int .i64 bud) from rfl)
            go_wp2_with fail
            go_ret
            exact ⟨rfl, HB.out⟩
          ·
            have d6 : decide (bud ≤ 65535) = false := decide_eq_false hb2
            obtain rfl : 2 = va := by rw [← HVA.out, if_neg (fun h => hb2 h.2)]
            clear hb1 hb2
            have K2c0 := (blk_cell K2.out 0).trans (show _ = some (.int .i64 bud) from rfl)
            go_wp2_with fail
            go_ret
            exact ⟨rfl, HB.out⟩
        ·
          have d5 : decide (1 ≤ bud) = false := decide_eq_false hb1
          obtain rfl : 2 = va := by rw [← HVA.out, if_neg (fun h => hb1 h.1)]
          clear hb1
          have K2c0 := (blk_cell K2.out 0).trans (show _ = some (.int .i64 bud) from rfl)
          go_wp2_with fail
          go_ret
          exact ⟨rfl, HB.out⟩
      ·
        have d4 : (checkF b d ws != 0) = true := by simpa using h4
        clear h4
        go_wp2_with fail
        refine (awake_calls _).mono ?_
        rintro e w31 ⟨rfl, hb⟩
        replace K1 := Aside0.mk (blk_below K1.out hb)
        replace K2 := Aside0.mk (blk_below K2.out hb)
        replace HB := Aside0.mk (HB.out.trans (hb.mono HB.out.size))
        clear hb
        go_wp2_with fail
        go_ret
        exact ⟨rfl, HB.out⟩
end Go.Proofs.Ytkeadpichlgagaa.Pla
