/- MembersNext, walked. -/
import Derived.Test.YtkeadpichlgagaaMeJ
import Derived.Test.YtkeadpichlgagaaRa
namespace Go.Proofs.Ytkeadpichlgagaa.Me
open Go.RowKit Go.Lib Go.Sort Go.Shelf Go.Proofs.YtkeadpichlgagaaW.PrintWords Go.Proofs.YtkeadpichlgagaaW.PrintLast Go.Proofs.YtkeadpichlgagaaW.PrintMore
open Go.Proofs.Ytkeadpichlgagaa.PMembersNext Go.Proofs.Ytkeadpichlgagaa.Mp
set_option linter.unusedVariables false
set_option linter.unusedSimpArgs false
set_option linter.unnecessarySimpa false

def smB (x : S67) : Bool := decide (x.f0.length ≤ 60 ∧ x.f1.length ≤ 60)
theorem small_calls (A0 A1 : Option Addr) (c0 c1 : Nat) (x : S67) (w : World) (hx : CfR w x A0 c0 A1 c1) :
    Calls Try.prog 50 #[.agg #[.slice A0 x.f0.length c0, .slice A1 x.f1.length c1]] w fun e w' => e = .returned (.bool (smB x)) ∧ Below w.heap.size w w' :=
  echelonlaw08_small.calls A0 c0 x.f0 A1 c1 x.f1 (smB x) w hx.g0 hx.l0 hx.g1 hx.l1 (small_at _ _)
theorem same_calls (A0 A1 B0 B1 : Option Addr) (c0 c1 d0 d1 : Nat) (x y : S67) (w : World) (hx : CfR w x A0 c0 A1 c1) (hy : CfR w y B0 d0 B1 d1) (h0 : x.f0.length ≤ 1000000) (h1 : x.f1.length ≤ 1000000) :
    Calls Try.prog 61 #[.agg #[.slice A0 x.f0.length c0, .slice A1 x.f1.length c1], .agg #[.slice B0 y.f0.length d0, .slice B1 y.f1.length d1]] w fun e w' => e = .returned (.bool (decide (x.f0 = y.f0 ∧ x.f1 = y.f1))) ∧ Below w.heap.size w w' := by
  obtain ⟨k, hk⟩ := (same_ev x.f0 x.f1 y.f0 y.f1 (by omega) (by omega)).rounds
  exact echelonref08_Same.calls k A0 c0 x.f0 A1 c1 x.f1 B0 d0 y.f0 B1 d1 y.f1 _ w hx.g0 hx.l0 hx.g1 hx.l1 hy.g0 hy.l0 hy.g1 hy.l1 hk
/-- A value that reads as numbers. -/
def RdV (W : World) (v : Value) (xs : List Int) : Prop := ∃ A c, v = .slice A xs.length c ∧ xs.length ≤ c ∧ (Kd.int .i64).C W A xs.length xs
theorem RdV.below {W W' : World} {v : Value} {xs : List Int} (h : RdV W v xs) (hb : Below W.heap.size W W') : RdV W' v xs := by
  obtain ⟨A, c, h1, h2, h3⟩ := h
  exact ⟨A, c, h1, h2, Kd.C_below h3 hb⟩
theorem RdV.of_R {W : World} {v : Value} {xs : List Int} {B : Nat} {ok : Nat → Prop} (h : (Kd.int .i64).R 3 W B ok v xs) : RdV W v xs := by
  obtain ⟨A, c, rfl⟩ := Kd.R_slice h
  obtain ⟨_, h1, h2⟩ := Kd.R_reads' h
  exact ⟨A, c, rfl, h1, h2⟩
/-- A pointer to a block made since. -/
def Zp (T : TypeId) (cells : Array Value) (n : Nat) (v : Value) (W : World) : Prop := ∃ g, v = .pointer (some ⟨g, 0, none⟩) ∧ n ≤ g ∧ W.heap[g]? = some (.cells cells T (0, 0))
theorem Zp.below {T : TypeId} {cells : Array Value} {n : Nat} {v : Value} {W W' : World} (h : Zp T cells n v W) (hb : Below W.heap.size W W') : Zp T cells n v W' := by
  obtain ⟨g, h1, h2, h3⟩ := h
  exact ⟨g, h1, h2, blk_below h3 hb⟩
theorem CfR.nil (w : World) : CfR w z67 none 0 none 0 := ⟨⟨rfl, by decide, fun h => by simp [z67] at h⟩, Nat.le_refl _, ⟨rfl, by decide, fun h => by simp [z67] at h⟩, Nat.le_refl _⟩
theorem cell_below {w w' : World} {p : Addr} {v : Value} (h : w.cell? p = some v) (hb : Below w.heap.size w w') : w'.cell? p = some v := by rw [hb.cell (cell_lt h)]; exact h
theorem CfV.below {W W' : World} {v : Value} {x : S67} (h : CfV W v x) (hb : Below W.heap.size W W') : CfV W' v x := by
  obtain ⟨A0, c0, A1, c1, h1, h2⟩ := h
  exact ⟨A0, c0, A1, c1, h1, h2.below hb⟩
/-- Two new rows and a box. -/
def PhiR (x : S67) (B n : Nat) (i : Nat) (v : Value) (W : World) : Prop := match i with
  | 0 => Rg.Empty 3 B v W
  | 3 => RdV W v x.f0
  | 4 => Rg.Empty 3 B v W
  | 7 => RdV W v x.f1
  | 8 => CfV W v x
  | 9 => Zp 67 #[.slice none 0 0, .slice none 0 0] n v W
  | _ => True
theorem PhiR.st (x : S67) (B n : Nat) : ∀ i v w1 w2, PhiR x B n i v w1 → Below w1.heap.size w1 w2 → PhiR x B n i v w2 := by
  intro i v w1 w2 h hb
  unfold PhiR at *
  split <;> first | exact h.below hb | trivial
/-- What a change makes, and a box. -/
def PhiN (y : S67) (er : Int) (n : Nat) (i : Nat) (v : Value) (W : World) : Prop := match i with
  | 5 => ∃ u, v = .tuple #[u, .int .i64 er] ∧ CfV W u y
  | 6 => ∃ u, v = .tuple #[u, .int .i64 er] ∧ CfV W u y
  | 7 => CfV W v y
  | 8 => v = .int .i64 er
  | 9 => Zp 67 #[.slice none 0 0, .slice none 0 0] n v W
  | _ => True
theorem PhiN.st (y : S67) (er : Int) (n : Nat) : ∀ i v w1 w2, PhiN y er n i v w1 → Below w1.heap.size w1 w2 → PhiN y er n i v w2 := by
  intro i v w1 w2 h hb
  unfold PhiN at *
  split
  · obtain ⟨u, h1, h2⟩ := h; exact ⟨u, h1, h2.below hb⟩
  · obtain ⟨u, h1, h2⟩ := h; exact ⟨u, h1, h2.below hb⟩
  · exact h.below hb
  · exact h
  · exact h.below hb
  · trivial
set_option maxHeartbeats 4000000 in
set_option maxRecDepth 100000 in
theorem next_law (A0 A1 : Option Addr) (c0 c1 : Nat) (x : S67) (Ac : Option Addr) (cc : Nat) (chs : List S84) (w : World) (hx : CfR w x A0 c0 A1 c1) (hch : Kd.C k84 w Ac chs.length chs) (hcc : chs.length ≤ cc) :
    Calls Try.prog 12 #[.agg #[.slice A0 x.f0.length c0, .slice A1 x.f1.length c1], .slice Ac chs.length cc] w fun e w' => e = .returned (.bool true) ∧ Below w.heap.size w w' := by
  have hu67 := Try.underlying67
  have hu84 := Try.underlying84
  have HX := Aside0.mk hx
  have HCH := Aside0.mk hch
  have hmax := hch.2.1
  clear hx hch
  go_enter Try.func12, Try.ntmps12
  go_wp2_with fail
  have HBW : Aside0 (Below w.heap.size w (w.alloc (Obj.cells #[Value.slice A0 x.f0.length c0, Value.slice A1 x.f1.length c1] 67))) := ⟨(Below.refl _ w).alloc (Nat.le_refl _) _⟩
  have K0 := Aside0.mk (grown_new (w := w) #[Value.slice A0 x.f0.length c0, Value.slice A1 x.f1.length c1] 67)
  generalize w.alloc (Obj.cells #[Value.slice A0 x.f0.length c0, Value.slice A1 x.f1.length c1] 67) = w1 at HBW K0 ⊢
  obtain ⟨b0, hb0⟩ : ∃ b, w.heap.size = b := ⟨_, rfl⟩
  have HG : Aside0 (w.heap.size ≤ b0) := ⟨by omega⟩
  rw [hb0] at K0 ⊢
  clear hb0
  refine (awake_calls _).mono ?_
  rintro e w2 ⟨rfl, hb⟩
  have HB2 := Aside0.mk (HBW.out.trans (hb.mono HBW.out.size))
  have K02 := Aside0.mk (blk_below K0.out hb)
  clear hb HBW K0
  have a0 := (blk_cell K02.out 0).trans (show _ = some (Value.slice A0 x.f0.length c0) from rfl)
  have a1 := (blk_cell K02.out 1).trans (show _ = some (Value.slice A1 x.f1.length c1) from rfl)
  go_wp2_with fail
  refine (small_calls A0 A1 c0 c1 x w2 (HX.out.below HB2.out)).mono ?_
  rintro e w3 ⟨rfl, hb⟩
  have HB3 := Aside0.mk (HB2.out.trans (hb.mono HB2.out.size))
  have K03 := Aside0.mk (blk_below K02.out hb)
  clear hb HB2 K02 a0 a1
  cases hsm : smB x with
  | false =>
    clear hsm
    go_wp2_with fail
    refine (awake_calls _).mono ?_
    rintro e w4 ⟨rfl, hb⟩
    have HB4 := Aside0.mk (HB3.out.trans (hb.mono HB3.out.size))
    clear hb
    go_wp2_with fail
    go_ret
    exact ⟨rfl, HB4.out⟩
  | true =>
    obtain ⟨hs0, hs1⟩ := of_decide_eq_true hsm
    clear hsm
    by_cases h60 : (60 : Int) < chs.length
    · have hd : decide ((60 : Int) < chs.length) = true := decide_eq_true h60
      go_wp2_with fail
      refine (awake_calls _).mono ?_
      rintro e w4 ⟨rfl, hb⟩
      have HB4 := Aside0.mk (HB3.out.trans (hb.mono HB3.out.size))
      clear hb
      go_wp2_with fail
      go_ret
      exact ⟨rfl, HB4.out⟩
    · have hd : decide ((60 : Int) < chs.length) = false := decide_eq_false h60
      have HX3 := Aside0.mk (HX.out.below HB3.out)
      have HCH3 := Aside0.mk (Kd.C_below HCH.out HB3.out)
      have HD3 : Aside0 (Below w3.heap.size w3 w3.drew) := ⟨(Below.refl _ _).drew⟩
      have HSS : Aside0 (∀ W, Below w3.heap.size w3 W → W.cell? ⟨b0, 0, none⟩ = some (.slice A0 x.f0.length c0) ∧ W.cell? ⟨b0, 1, none⟩ = some (.slice A1 x.f1.length c1)) := ⟨fun W hW => ⟨(blk_cell (blk_below K03.out hW) 0).trans rfl, (blk_cell (blk_below K03.out hW) 1).trans rfl⟩⟩
      have HBW : Aside0 (w.heap.size ≤ w3.heap.size) := ⟨HB3.out.size⟩
      have HLB : Aside0 (b0 < w3.heap.size) := ⟨blk_lt K03.out⟩
      go_upto_region 3 with fail
      refine start_ (n := 11) (S := fun w' => w'.cell? ⟨b0, 0, none⟩ = some (.slice A0 x.f0.length c0) ∧ w'.cell? ⟨b0, 1, none⟩ = some (.slice A1 x.f1.length c1)) (ds := [10]) #[false, false, false, false, false, false, false, false, false, false, false] (by kernel_rfl) rfl rfl (HSS.out _ HD3.out) (fun hHeld => ?_)
      refine pure_ (i := 1) (N := some 26) (v := ?_) (a' := ?_) #[false, true, false, false, false, false, false, false, false, false, false] rfl rfl (by kernel_rfl) (fun _ _ _ h => h) (Or.inl ⟨by rfl, ?_⟩) ?_ ?_
      rotate_left
      · intro w'
        go_simp
        with_reducible rfl
      rotate_left
      · simp only [Act.put, List.setIfInBounds_toArray, List.set_cons_zero, List.set_cons_succ, i64_w, i32_w]
        rfl
      refine pure_ (i := 5) (N := some 30) (v := ?_) (a' := ?_) #[false, true, false, false, false, true, false, false, false, false, false] rfl rfl (by kernel_rfl) (fun _ _ _ h => h) (Or.inl ⟨by rfl, ?_⟩) ?_ ?_
      rotate_left
      · intro w'
        go_simp
        with_reducible rfl
      rotate_left
      · simp only [Act.put, List.setIfInBounds_toArray, List.set_cons_zero, List.set_cons_succ, i64_w, i32_w]
        rfl
      refine take_ (i := 2) (N := some 27) (v := ?_) (a' := ?_) #[false, true, true, false, false, true, false, false, false, false, false] rfl rfl (by kernel_rfl) (fun _ _ _ h => h) (Or.inl ⟨by rfl, ?_⟩) hHeld ?_ ?_
      rotate_left
      · rintro w' ⟨s0, s1⟩
        go_simp
        with_reducible rfl
      rotate_left
      · simp only [Act.put, List.setIfInBounds_toArray, List.set_cons_zero, List.set_cons_succ, i64_w, i32_w]
        rfl
      refine take_ (i := 6) (N := some 31) (v := ?_) (a' := ?_) #[false, true, true, false, false, true, true, false, false, false, false] rfl rfl (by kernel_rfl) (fun _ _ _ h => h) (Or.inl ⟨by rfl, ?_⟩) hHeld ?_ ?_
      rotate_left
      · rintro w' ⟨s0, s1⟩
        go_simp
        with_reducible rfl
      rotate_left
      · simp only [Act.put, List.setIfInBounds_toArray, List.set_cons_zero, List.set_cons_succ, i64_w, i32_w]
        rfl
      refine Rg.rg_ (R := [(0, 25, false, []), (3, 28, false, [(0, 25)]), (4, 29, false, []), (7, 32, false, [(0, 25), (3, 28), (4, 29)]), (8, 33, true, [(0, 25), (3, 28), (4, 29), (7, 32)]), (9, 5, false, [])]) 1 #[true, true, true, true, true, true, true, true, true, true, false] (PhiR x w.heap.size w3.heap.size) (by kernel_rfl) rfl (PhiR.st _ _ _) (fun w1 hW => HSS.out _ (HD3.out.trans (hW.mono HD3.out.size))) ?_ (fun _ _ _ _ _ h => h) ?_
      · refine Rg.Steps.cons (i := 0) (by rfl) (fun vals W hW hΦ K hK => ?_) ?_
        · refine Rg.norm_step (a' := ?_) ?_ ?_
          rotate_left
          · simp only [Rg.actOf, putAll, List.map_cons, List.map_nil, Act.put, List.setIfInBounds_toArray, List.set_cons_zero, List.set_cons_succ]
            rfl
          refine value_ (w1 := ?_) (v := ?_) (by rfl) rfl ?_ ?_
          rotate_left 2
          · go_simp
            constructor
            · rfl
            · rfl
          exact hK.out _ _ ((Below.refl _ W).alloc (Nat.le_refl _) _) ⟨W.heap.size, _, rfl, Nat.le_trans HBW.out (HD3.out.trans (hW.mono HD3.out.size)).size, grown_new _ _, rfl⟩
        refine Rg.Steps.cons (i := 3) (by rfl) (fun vals W hW hΦ K hK => ?_) ?_
        · refine Rg.norm_step (a' := ?_) ?_ ?_
          rotate_left
          · simp only [Rg.actOf, putAll, List.map_cons, List.map_nil, Act.put, List.setIfInBounds_toArray, List.set_cons_zero, List.set_cons_succ]
            rfl
          have hE : Rg.Empty 3 w.heap.size (vals 0) W := hΦ (0, 25) (by simp)
          refine Rg.fresh_append (α := Int) (enc := Value.int .i64) (h1 := fun _ => rfl) w.heap.size (by rfl) (.tmp 25) (.tmp 27) 25 3 (.int .i64 0) 8 rfl rfl Try.underlying25 info3 rfl (by decide) (vals 0) x.f0 A0 x.f0.length c0 (by rfl) (by rfl) hE (HX3.out.below (HD3.out.trans (hW.mono HD3.out.size))).g0 (Nat.le_trans HBW.out (HD3.out.trans (hW.mono HD3.out.size)).size) (by omega) ?_
          intro v1 w1 hr hb
          exact hK.out _ _ hb (RdV.of_R hr)
        refine Rg.Steps.cons (i := 4) (by rfl) (fun vals W hW hΦ K hK => ?_) ?_
        · refine Rg.norm_step (a' := ?_) ?_ ?_
          rotate_left
          · simp only [Rg.actOf, putAll, List.map_cons, List.map_nil, Act.put, List.setIfInBounds_toArray, List.set_cons_zero, List.set_cons_succ]
            rfl
          refine value_ (w1 := ?_) (v := ?_) (by rfl) rfl ?_ ?_
          rotate_left 2
          · go_simp
            constructor
            · rfl
            · rfl
          exact hK.out _ _ ((Below.refl _ W).alloc (Nat.le_refl _) _) ⟨W.heap.size, _, rfl, Nat.le_trans HBW.out (HD3.out.trans (hW.mono HD3.out.size)).size, grown_new _ _, rfl⟩
        refine Rg.Steps.cons (i := 7) (by rfl) (fun vals W hW hΦ K hK => ?_) ?_
        · refine Rg.norm_step (a' := ?_) ?_ ?_
          rotate_left
          · simp only [Rg.actOf, putAll, List.map_cons, List.map_nil, Act.put, List.setIfInBounds_toArray, List.set_cons_zero, List.set_cons_succ]
            rfl
          have hE : Rg.Empty 3 w.heap.size (vals 4) W := hΦ (4, 29) (by simp)
          refine Rg.fresh_append (α := Int) (enc := Value.int .i64) (h1 := fun _ => rfl) w.heap.size (by rfl) (.tmp 29) (.tmp 31) 25 3 (.int .i64 0) 8 rfl rfl Try.underlying25 info3 rfl (by decide) (vals 4) x.f1 A1 x.f1.length c1 (by rfl) (by rfl) hE (HX3.out.below (HD3.out.trans (hW.mono HD3.out.size))).g1 (Nat.le_trans HBW.out (HD3.out.trans (hW.mono HD3.out.size)).size) (by omega) ?_
          intro v1 w1 hr hb
          exact hK.out _ _ hb (RdV.of_R hr)
        refine Rg.Steps.pure (i := 8) (by rfl) (fun vals W hW hΦ => ?_) ?_
        · obtain ⟨A5, d5, e5, l5, g5⟩ : RdV W (vals 3) x.f0 := hΦ (3, 28) (by simp)
          obtain ⟨A6, d6, e6, l6, g6⟩ : RdV W (vals 7) x.f1 := hΦ (7, 32) (by simp)
          refine Rg.norm_yields (a' := ?_) ?_ ?_
          rotate_left
          · simp only [Rg.actOf, putAll, List.map_cons, List.map_nil, Act.put, List.setIfInBounds_toArray, List.set_cons_zero, List.set_cons_succ]
            rfl
          refine ⟨?_, Or.inl ⟨by rfl, ?_⟩, ?_⟩
          rotate_left
          · intro w'
            go_simp
            with_reducible rfl
          exact ⟨A5, d5, A6, d6, rfl, ⟨g5, l5, g6, l6⟩⟩
        refine Rg.Steps.cons (i := 9) (by rfl) (fun vals W hW hΦ K hK => ?_) ?_
        · refine Rg.norm_step (a' := ?_) ?_ ?_
          rotate_left
          · simp only [Rg.actOf, putAll, List.map_cons, List.map_nil, Act.put, List.setIfInBounds_toArray, List.set_cons_zero, List.set_cons_succ]
            rfl
          refine value_ (w1 := ?_) (v := ?_) (by rfl) rfl ?_ ?_
          rotate_left 2
          · go_simp
            constructor
            · rfl
            · rfl
          exact hK.out _ _ ((Below.refl _ W).alloc (Nat.le_refl _) _) ⟨W.heap.size, rfl, (HD3.out.trans (hW.mono HD3.out.size)).size, grown_new _ _⟩
        exact Rg.Steps.nil
      intro vals W hW hΦ hHeld
      have HB4 := Aside0.mk (HD3.out.trans (hW.mono HD3.out.size))
      obtain ⟨A5, d5, A6, d6, e8, h8⟩ : CfV W (vals 8) x := hΦ (8, 33, true, [(0, 25), (3, 28), (4, 29), (7, 32)]) (by simp)
      obtain ⟨b5, e9, hb5, k5⟩ : Zp 67 #[.slice none 0 0, .slice none 0 0] w3.heap.size (vals 9) W := hΦ (9, 5, false, []) (by simp)
      have HIN := Aside0.mk h8
      have K5 := Aside0.mk k5
      have HN5 : Aside0 (b0 ≠ b5) := ⟨by have := HLB.out; omega⟩
      have HG5 : Aside0 (w.heap.size ≤ b5) := ⟨Nat.le_trans HBW.out hb5⟩
      refine norm_ (a' := ?_) ?_ ?_
      rotate_left
      · simp only [Rg.actOf, putAll, List.map_cons, List.map_nil, Act.put, List.setIfInBounds_toArray, List.set_cons_zero, List.set_cons_succ]
        rfl
      rw [e8, e9]
      generalize vals 0 = v0
      generalize vals 3 = v3
      generalize vals 4 = v4
      generalize vals 7 = v7
      clear e8 e9 hΦ h8 hb5 k5
      have K5c0 := (blk_cell K5.out 0).trans (show _ = some (Value.slice none 0 0) from rfl)
      have K5c1 := (blk_cell K5.out 1).trans (show _ = some (Value.slice none 0 0) from rfl)
      have K5f0 := blk_frozen K5.out 0
      have K5f1 := blk_frozen K5.out 1
      refine last_ (i := 10) (N := none) #[true, true, true, true, true, true, true, true, true, true, true] rfl rfl (by kernel_rfl) (by decide) (fun K hK => ?_)
      refine skip_ (w1 := ?_) (by rfl) rfl ?_ ?_
      rotate_left
      · go_simp
        rfl
      refine hK.out _ _ ?_
      clear hK K
      refine done_ (by kernel_rfl) ?_
      have HB := Aside0.mk (((HB3.out.trans (HB4.out.mono HB3.out.size)).setCell (p := ⟨b5, 0, none⟩) HG5.out (.slice A5 x.f0.length d5)).setCell (p := ⟨b5, 1, none⟩) HG5.out (.slice A6 x.f1.length d6))
      have K0 := Aside0.mk (blk_far (blk_far (blk_below K03.out HB4.out) (p := ⟨b5, 0, none⟩) HN5.out (.slice A5 x.f0.length d5)) (p := ⟨b5, 1, none⟩) HN5.out (.slice A6 x.f1.length d6))
      have HINn : Aside0 (CfR ((W.setCell ⟨b5, 0, none⟩ (.slice A5 x.f0.length d5)).setCell ⟨b5, 1, none⟩ (.slice A6 x.f1.length d6)) x A5 d5 A6 d6) := ⟨(HIN.out.set K5.out (fun n h => by cases h) (fun n h => by cases h) 0 _).set (blk_put (cs := #[.slice none 0 0, .slice none 0 0]) K5.out 0 (.slice A5 x.f0.length d5) rfl) (fun n h => by cases h) (fun n h => by cases h) 1 _⟩
      replace K5 := Aside0.mk (blk_put (cs := #[.slice A5 x.f0.length d5, .slice none 0 0]) (blk_put (cs := #[.slice none 0 0, .slice none 0 0]) K5.out 0 (.slice A5 x.f0.length d5) rfl) 1 (.slice A6 x.f1.length d6) rfl)
      clear HIN HX3 HCH3 K03 HB3 HB4 HD3 HSS HBW HLB hHeld hW K5c0 K5c1 K5f0 K5f1 HN5
      generalize (W.setCell ⟨b5, 0, none⟩ (.slice A5 x.f0.length d5)).setCell ⟨b5, 1, none⟩ (.slice A6 x.f1.length d6) = w4 at HB K0 HINn K5 ⊢
      clear W
      have K5c0 := (blk_cell K5.out 0).trans (show _ = some (.slice A5 x.f0.length d5) from rfl)
      have K5c1 := (blk_cell K5.out 1).trans (show _ = some (.slice A6 x.f1.length d6) from rfl)
      go_wp2_with fail
      refine (Next_calls A5 A6 d5 d6 x Ac cc chs w4 HINn.out (Kd.C_below HCH.out HB.out) (by omega) (by omega)).mono ?_
      rintro e w5 ⟨v, rfl, ⟨G0, k0, G1, k1, rfl, hgot⟩, hb⟩
      have HGOT := Aside0.mk hgot
      clear K5c0 K5c1
      replace K0 := Aside0.mk (blk_below K0.out hb)
      replace K5 := Aside0.mk (blk_below K5.out hb)
      replace HINn := Aside0.mk (HINn.out.below hb)
      replace HB := Aside0.mk (HB.out.trans (hb.mono HB.out.size))
      clear hb
      clear hgot
      generalize hres : nxF x chs = res at *
      have HRES := Aside0.mk hres
      clear hres
      go_upto_region 5 with fail
      obtain ⟨b6, hb6⟩ : ∃ b, w5.heap.size = b := ⟨_, rfl⟩
      have HBr : Aside0 (Below w5.heap.size w5 (w5.alloc (Obj.cells #[.slice G0 res.1.f0.length k0, .slice G1 res.1.f1.length k1] 67))) := ⟨(Below.refl _ w5).alloc (Nat.le_refl _) _⟩
      have K6 := Aside0.mk (grown_new (w := w5) #[.slice G0 res.1.f0.length k0, .slice G1 res.1.f1.length k1] 67)
      have HG6 : Aside0 (w.heap.size ≤ b6) := ⟨by rw [← hb6]; exact HB.out.size⟩
      rw [hb6] at K6 ⊢
      clear hb6
      have hb := HBr.out
      clear HBr
      replace K0 := Aside0.mk (blk_below K0.out hb)
      replace K5 := Aside0.mk (blk_below K5.out hb)
      replace HINn := Aside0.mk (HINn.out.below hb)
      replace HGOT := Aside0.mk (HGOT.out.below hb)
      replace HB := Aside0.mk (HB.out.trans (hb.mono HB.out.size))
      clear hb
      generalize w5.alloc (Obj.cells #[.slice G0 res.1.f0.length k0, .slice G1 res.1.f1.length k1] 67) = w6 at *
      have K0c0 := (blk_cell K0.out 0).trans (show _ = some (.slice A0 x.f0.length c0) from rfl)
      have K0c1 := (blk_cell K0.out 1).trans (show _ = some (.slice A1 x.f1.length c1) from rfl)
      have K5c0 := (blk_cell K5.out 0).trans (show _ = some (.slice A5 x.f0.length d5) from rfl)
      have K5c1 := (blk_cell K5.out 1).trans (show _ = some (.slice A6 x.f1.length d6) from rfl)
      go_wp2_with fail
      refine (same_calls A5 A6 A0 A1 d5 d6 c0 c1 x x w6 HINn.out (HX.out.below HB.out) (by omega) (by omega)).mono ?_
      rintro e w7 ⟨rfl, hb⟩
      rw [show decide (x.f0 = x.f0 ∧ x.f1 = x.f1) = true from by simp]
      clear K0c0 K0c1 K5c0 K5c1
      replace K0 := Aside0.mk (blk_below K0.out hb)
      replace K5 := Aside0.mk (blk_below K5.out hb)
      replace K6 := Aside0.mk (blk_below K6.out hb)
      replace HINn := Aside0.mk (HINn.out.below hb)
      replace HGOT := Aside0.mk (HGOT.out.below hb)
      replace HB := Aside0.mk (HB.out.trans (hb.mono HB.out.size))
      clear hb
      clear K5 HINn
      have K0c0 := (blk_cell K0.out 0).trans (show _ = some (.slice A0 x.f0.length c0) from rfl)
      have K0c1 := (blk_cell K0.out 1).trans (show _ = some (.slice A1 x.f1.length c1) from rfl)
      go_wp2_with fail
      refine (refright_calls A0 A1 c0 c1 x w7 (HX.out.below HB.out) (by omega) (by omega)).mono ?_
      rintro e w8 ⟨rfl, hb⟩
      clear K0c0 K0c1
      replace K0 := Aside0.mk (blk_below K0.out hb)
      replace K6 := Aside0.mk (blk_below K6.out hb)
      replace HGOT := Aside0.mk (HGOT.out.below hb)
      replace HB := Aside0.mk (HB.out.trans (hb.mono HB.out.size))
      clear hb
      cases hrt : rtB x with
      | false =>
        have hr : res = (z67, 80) := by rw [← HRES.out]; unfold nxF; rw [if_neg (by rw [hrt]; decide)]
        have HR1 : Aside0 (res.1.f0 = [] ∧ res.1.f1 = []) := ⟨by rw [hr]; exact ⟨rfl, rfl⟩⟩
        have t1 : (res.2 == 80) = true := by rw [hr]; rfl
        clear hr hrt
        have K6c0 := (blk_cell K6.out 0).trans (show _ = some (.slice G0 res.1.f0.length k0) from rfl)
        have K6c1 := (blk_cell K6.out 1).trans (show _ = some (.slice G1 res.1.f1.length k1) from rfl)
        go_wp2_with fail
        refine (same_calls G0 G1 none none k0 k1 0 0 res.1 z67 w8 HGOT.out (CfR.nil w8) (by rw [HR1.out.1]; decide) (by rw [HR1.out.2]; decide)).mono ?_
        rintro e w9 ⟨rfl, hb⟩
        rw [show decide (res.1.f0 = z67.f0 ∧ res.1.f1 = z67.f1) = true from decide_eq_true HR1.out]
        clear K6c0 K6c1
        replace K0 := Aside0.mk (blk_below K0.out hb)
        replace K6 := Aside0.mk (blk_below K6.out hb)
        replace HGOT := Aside0.mk (HGOT.out.below hb)
        replace HB := Aside0.mk (HB.out.trans (hb.mono HB.out.size))
        clear hb
        go_wp2_with fail
        go_ret
        exact ⟨rfl, HB.out⟩
      | true =>
        have HRT := Aside0.mk (rtB_iff.1 hrt)
        have HE : Aside0 (runF x chs = res) := ⟨by rw [← HRES.out]; unfold nxF; rw [if_pos hrt]⟩
        clear hrt HRES
        have K0c0 := (blk_cell K0.out 0).trans (show _ = some (.slice A0 x.f0.length c0) from rfl)
        have K0c1 := (blk_cell K0.out 1).trans (show _ = some (.slice A1 x.f1.length c1) from rfl)
        go_wp2_with fail
        obtain ⟨b8, hb8⟩ : ∃ b, w8.heap.size = b := ⟨_, rfl⟩
        have HBr : Below w8.heap.size w8 (w8.alloc (Obj.cells #[Value.slice A0 x.f0.length c0, Value.slice A1 x.f1.length c1] 67)) := (Below.refl _ w8).alloc (Nat.le_refl _) _
        have K8 := Aside0.mk (grown_new (w := w8) #[Value.slice A0 x.f0.length c0, Value.slice A1 x.f1.length c1] 67)
        have HG8 : Aside0 (w.heap.size ≤ b8) := ⟨by rw [← hb8]; exact HB.out.size⟩
        rw [hb8] at K8 ⊢
        have HN86 : Aside0 (b6 ≠ b8 ∧ b0 ≠ b8) := ⟨by have h1 := blk_lt K6.out; have h2 := blk_lt K0.out; omega⟩
        clear hb8
        clear K0c0 K0c1
        replace K0 := Aside0.mk (blk_below K0.out HBr)
        replace K6 := Aside0.mk (blk_below K6.out HBr)
        replace HGOT := Aside0.mk (HGOT.out.below HBr)
        replace HB := Aside0.mk (HB.out.trans (HBr.mono HB.out.size))
        clear HBr
        have HCF := Aside0.mk (HX.out.below HB.out)
        generalize w8.alloc (Obj.cells #[Value.slice A0 x.f0.length c0, Value.slice A1 x.f1.length c1] 67) = w9 at *
        go_loopg [9] chs.length (fun kq v9 wr => ∃ (i : Nat) (y : S67) (B0 : Option Addr) (d0 : Nat) (B1 : Option Addr) (d1 : Nat), v9 = .int .i64 i ∧ i + kq = chs.length ∧ Aside0 (Rt y) ∧ Aside0 (runF x chs = runF y (chs.drop i)) ∧ Aside0 (wr.heap[b6]? = some (.cells #[.slice G0 res.1.f0.length k0, .slice G1 res.1.f1.length k1] 67 (0, 0))) ∧ Aside0 (wr.heap[b8]? = some (.cells #[.slice B0 y.f0.length d0, .slice B1 y.f1.length d1] 67 (0, 0))) ∧ Aside0 (CfR wr y B0 d0 B1 d1) ∧ Aside0 (CfR wr res.1 G0 k0 G1 k1) ∧ Aside0 (Below w.heap.size w wr))
        case atStart => exact ⟨0, x, A0, c0, A1, c1, rfl, by omega, HRT, ⟨by rw [List.drop_zero]⟩, K6, K8, HCF, HGOT, HB⟩
        case round =>
          clear K6 K8 HCF HGOT HB K0
          obtain ⟨i, y, B0, d0, B1, d1, rfl, hi, HRY, HRU, K6, K8, HCF, HGOT, HB⟩ := hrel
          by_cases hlt : i < chs.length
          ·
            have hlt' : (i : Int) < (chs.length : Int) := by omega
            obtain ⟨ad, ea, y0, y1⟩ := at_T84 (Kd.C_below HCH.out HB.out) i (by omega) hlt'
            subst ea
            have er : rd_T84 chs (i : Int) = chs[i] := by simp [rd_T84, hlt]
            rw [er] at y0 y1
            simp only [Int.toNat_natCast] at y0 y1
            have HRN : Aside0 (runF x chs = if nextE y chs[i].f0 chs[i].f1 ≠ 0 then (z67, nextE y chs[i].f0 chs[i].f1) else runF (nextC y chs[i].f0 chs[i].f1) (chs.drop (i + 1))) := ⟨by rw [HRU.out, List.drop_eq_getElem_cons hlt]; rfl⟩
            clear er HRU
            generalize chs[i] = ch at y0 y1 HRN
            obtain ⟨d, id⟩ := ch
            simp only at y0 y1
            have HD3 : Aside0 (Below wr.heap.size wr wr.drew) := ⟨(Below.refl _ _).drew⟩
            have HSS : Aside0 (∀ W, Below wr.heap.size wr W → W.cell? ⟨b8, 0, none⟩ = some (.slice B0 y.f0.length d0) ∧ W.cell? ⟨b8, 1, none⟩ = some (.slice B1 y.f1.length d1) ∧ W.cell? (ad.add (i * 2)) = some (.int .i64 d) ∧ W.cell? ⟨(ad.add (i * 2)).block, (ad.add (i * 2)).off + 1, none⟩ = some (.int .i64 id)) := ⟨fun W hW => ⟨(blk_cell (blk_below K8.out hW) 0).trans rfl, (blk_cell (blk_below K8.out hW) 1).trans rfl, cell_below y0 hW, cell_below y1 hW⟩⟩
            clear y0 y1
            go_upto_region 13 with fail
            refine start_ (n := 12) (S := fun w' => w'.cell? ⟨b8, 0, none⟩ = some (.slice B0 y.f0.length d0) ∧ w'.cell? ⟨b8, 1, none⟩ = some (.slice B1 y.f1.length d1) ∧ w'.cell? (ad.add (i * 2)) = some (.int .i64 d) ∧ w'.cell? ⟨(ad.add (i * 2)).block, (ad.add (i * 2)).off + 1, none⟩ = some (.int .i64 id)) (ds := [10]) #[false, false, false, false, false, false, false, false, false, false, false, false] (by kernel_rfl) rfl rfl (HSS.out _ HD3.out) (fun hHeld => ?_)
            refine pure_ (i := 1) (N := some 63) (v := ?_) (a' := ?_) #[false, true, false, false, false, false, false, false, false, false, false, false] rfl rfl (by kernel_rfl) (fun _ _ _ h => h) (Or.inl ⟨by rfl, ?_⟩) ?_ ?_
            rotate_left
            · intro w'
              go_simp
              with_reducible rfl
            rotate_left
            · simp only [Act.put, List.setIfInBounds_toArray, List.set_cons_zero, List.set_cons_succ, i64_w, i32_w]
              rfl
            refine pure_ (i := 2) (N := some 64) (v := ?_) (a' := ?_) #[false, true, true, false, false, false, false, false, false, false, false, false] rfl rfl (by kernel_rfl) (fun _ _ _ h => h) (Or.inl ⟨by rfl, ?_⟩) ?_ ?_
            rotate_left
            · intro w'
              go_simp
              with_reducible rfl
            rotate_left
            · simp only [Act.put, List.setIfInBounds_toArray, List.set_cons_zero, List.set_cons_succ, i64_w, i32_w]
              rfl
            refine pure_ (i := 3) (N := some 65) (v := ?_) (a' := ?_) #[false, true, true, true, false, false, false, false, false, false, false, false] rfl rfl (by kernel_rfl) (fun _ _ _ h => h) (Or.inl ⟨by rfl, ?_⟩) ?_ ?_
            rotate_left
            · intro w'
              go_simp
              with_reducible rfl
            rotate_left
            · simp only [Act.put, List.setIfInBounds_toArray, List.set_cons_zero, List.set_cons_succ, i64_w, i32_w]
              rfl
            refine take_ (i := 0) (N := some 62) (v := ?_) (a' := ?_) #[true, true, true, true, false, false, false, false, false, false, false, false] rfl rfl (by kernel_rfl) (fun _ _ _ h => h) (Or.inl ⟨by rfl, ?_⟩) hHeld ?_ ?_
            rotate_left
            · rintro w' ⟨s0, s1, s2, s3⟩
              go_simp
              with_reducible rfl
            rotate_left
            · simp only [Act.put, List.setIfInBounds_toArray, List.set_cons_zero, List.set_cons_succ, i64_w, i32_w]
              rfl
            refine take_ (i := 4) (N := some 66) (v := ?_) (a' := ?_) #[true, true, true, true, true, false, false, false, false, false, false, false] rfl rfl (by kernel_rfl) (fun _ _ _ h => h) (Or.inl ⟨by rfl, ?_⟩) hHeld ?_ ?_
            rotate_left
            · rintro w' ⟨s0, s1, s2, s3⟩
              go_simp
              with_reducible rfl
            rotate_left
            · simp only [Act.put, List.setIfInBounds_toArray, List.set_cons_zero, List.set_cons_succ, i64_w, i32_w]
              rfl
            refine Rg.rg_ (R := [(5, 67, false, []), (6, 61, true, [(5, 67)]), (7, 68, true, [(5, 67), (6, 61)]), (8, 69, true, [(5, 67), (6, 61)]), (9, 10, false, [])]) 2 #[true, true, true, true, true, true, true, true, true, true, false, false] (PhiN (nextC y d id) (nextE y d id) wr.heap.size) (by kernel_rfl) rfl (PhiN.st _ _ _) (fun w1 hW => HSS.out _ (HD3.out.trans (hW.mono HD3.out.size))) ?_ (fun _ _ _ _ _ h => h) ?_
            · refine Rg.Steps.cons (i := 5) (by rfl) (fun vals W hW hΦ K hK => ?_) ?_
              · refine Rg.norm_step (a' := ?_) ?_ ?_
                rotate_left
                · simp only [Rg.actOf, putAll, List.map_cons, List.map_nil, Act.put, List.setIfInBounds_toArray, List.set_cons_zero, List.set_cons_succ]
                  rfl
                refine goes_ Try.func62 (by kernel_rfl) rfl #[.agg #[.slice B0 y.f0.length d0, .slice B1 y.f1.length d1], .agg #[.int .i64 d, .int .i64 id]] (by rfl) rfl rfl (by (try simp only [List.map_toArray, List.map_cons, List.map_nil]); first | done | rfl) ?_
                refine (refnext_calls B0 B1 d0 d1 y d id W (HCF.out.below (HD3.out.trans (hW.mono HD3.out.size))) HRY.out).mono ?_
                rintro e w10 ⟨u, rfl, hcf, hb⟩
                refine ⟨_, rfl, ?_⟩
                exact hK.out _ _ hb ⟨u, rfl, hcf⟩
              refine Rg.Steps.pure (i := 6) (by rfl) (fun vals W hW hΦ => ?_) ?_
              · obtain ⟨u, e5, hcf⟩ : ∃ u, vals 5 = .tuple #[u, .int .i64 (nextE y d id)] ∧ CfV W u (nextC y d id) := hΦ (5, 67) (by simp)
                refine Rg.norm_yields (a' := ?_) ?_ ?_
                rotate_left
                · simp only [Rg.actOf, putAll, List.map_cons, List.map_nil, Act.put, List.setIfInBounds_toArray, List.set_cons_zero, List.set_cons_succ]
                  rfl
                refine ⟨?_, Or.inl ⟨by rfl, ?_⟩, ?_⟩
                rotate_left
                · intro w'
                  go_simp
                  with_reducible rfl
                exact ⟨u, rfl, hcf⟩
              refine Rg.Steps.pure (i := 7) (by rfl) (fun vals W hW hΦ => ?_) ?_
              · obtain ⟨u, e6, hcf⟩ : ∃ u, vals 6 = .tuple #[u, .int .i64 (nextE y d id)] ∧ CfV W u (nextC y d id) := hΦ (6, 61) (by simp)
                refine Rg.norm_yields (a' := ?_) ?_ ?_
                rotate_left
                · simp only [Rg.actOf, putAll, List.map_cons, List.map_nil, Act.put, List.setIfInBounds_toArray, List.set_cons_zero, List.set_cons_succ]
                  rfl
                refine ⟨?_, Or.inl ⟨by rfl, ?_⟩, ?_⟩
                rotate_left
                · intro w'
                  go_simp
                  with_reducible rfl
                exact hcf
              refine Rg.Steps.pure (i := 8) (by rfl) (fun vals W hW hΦ => ?_) ?_
              · obtain ⟨u, e6, hcf⟩ : ∃ u, vals 6 = .tuple #[u, .int .i64 (nextE y d id)] ∧ CfV W u (nextC y d id) := hΦ (6, 61) (by simp)
                refine Rg.norm_yields (a' := ?_) ?_ ?_
                rotate_left
                · simp only [Rg.actOf, putAll, List.map_cons, List.map_nil, Act.put, List.setIfInBounds_toArray, List.set_cons_zero, List.set_cons_succ]
                  rfl
                refine ⟨?_, Or.inl ⟨by rfl, ?_⟩, ?_⟩
                rotate_left
                · intro w'
                  go_simp
                  with_reducible rfl
                exact rfl
              refine Rg.Steps.cons (i := 9) (by rfl) (fun vals W hW hΦ K hK => ?_) ?_
              · refine Rg.norm_step (a' := ?_) ?_ ?_
                rotate_left
                · simp only [Rg.actOf, putAll, List.map_cons, List.map_nil, Act.put, List.setIfInBounds_toArray, List.set_cons_zero, List.set_cons_succ]
                  rfl
                refine value_ (w1 := ?_) (v := ?_) (by rfl) rfl ?_ ?_
                rotate_left 2
                · go_simp
                  constructor
                  · rfl
                  · rfl
                exact hK.out _ _ ((Below.refl _ W).alloc (Nat.le_refl _) _) ⟨W.heap.size, rfl, (HD3.out.trans (hW.mono HD3.out.size)).size, grown_new _ _⟩
              exact Rg.Steps.nil
            intro vals W hW hΦ hHeld
            obtain ⟨C0, m0, C1, m1, e7, h7⟩ : CfV W (vals 7) (nextC y d id) := hΦ (7, 68, true, [(5, 67), (6, 61)]) (by simp)
            have e8 : vals 8 = .int .i64 (nextE y d id) := hΦ (8, 69, true, [(5, 67), (6, 61)]) (by simp)
            obtain ⟨b10, e9, hb10, k10⟩ : Zp 67 #[.slice none 0 0, .slice none 0 0] wr.heap.size (vals 9) W := hΦ (9, 10, false, []) (by simp)
            have HNX := Aside0.mk h7
            have K10 := Aside0.mk k10
            have HB4 := Aside0.mk (HD3.out.trans (hW.mono HD3.out.size))
            have HG10 : Aside0 (w.heap.size ≤ b10) := ⟨Nat.le_trans HB.out.size hb10⟩
            have HN10 : Aside0 (b6 ≠ b10 ∧ b8 ≠ b10) := ⟨by have h1 := blk_lt K6.out; have h2 := blk_lt K8.out; omega⟩
            refine norm_ (a' := ?_) ?_ ?_
            rotate_left
            · simp only [Rg.actOf, putAll, List.map_cons, List.map_nil, Act.put, List.setIfInBounds_toArray, List.set_cons_zero, List.set_cons_succ]
              rfl
            rw [e7, e8, e9]
            generalize vals 5 = v5
            generalize vals 6 = v6
            clear e7 e8 e9 hΦ h7 hb10 k10
            have K10c0 := (blk_cell K10.out 0).trans (show _ = some (Value.slice none 0 0) from rfl)
            have K10c1 := (blk_cell K10.out 1).trans (show _ = some (Value.slice none 0 0) from rfl)
            have K10f0 := blk_frozen K10.out 0
            have K10f1 := blk_frozen K10.out 1
            refine last_ (i := 10) (N := none) #[true, true, true, true, true, true, true, true, true, true, true, false] rfl rfl (by kernel_rfl) (by decide) (fun K hK => ?_)
            refine skip_ (w1 := ?_) (by rfl) rfl ?_ ?_
            rotate_left
            · go_simp
              rfl
            refine hK.out _ _ ?_
            clear hK K
            refine pure_ (i := 11) (N := some 11) (v := ?_) (a' := ?_) #[true, true, true, true, true, true, true, true, true, true, true, true] rfl rfl (by kernel_rfl) (fun _ _ _ h => h) (Or.inl ⟨by rfl, ?_⟩) ?_ ?_
            rotate_left
            · intro w'
              go_simp
              with_reducible rfl
            rotate_left
            · simp only [Act.put, List.setIfInBounds_toArray, List.set_cons_zero, List.set_cons_succ, i64_w, i32_w]
              rfl
            refine done_ (by kernel_rfl) ?_
            replace HB := Aside0.mk (((HB.out.trans (HB4.out.mono HB.out.size)).setCell (p := ⟨b10, 0, none⟩) HG10.out (.slice C0 (nextC y d id).f0.length m0)).setCell (p := ⟨b10, 1, none⟩) HG10.out (.slice C1 (nextC y d id).f1.length m1))
            replace K6 := Aside0.mk (blk_far (blk_far (blk_below K6.out HB4.out) (p := ⟨b10, 0, none⟩) HN10.out.1 (.slice C0 (nextC y d id).f0.length m0)) (p := ⟨b10, 1, none⟩) HN10.out.1 (.slice C1 (nextC y d id).f1.length m1))
            replace K8 := Aside0.mk (blk_far (blk_far (blk_below K8.out HB4.out) (p := ⟨b10, 0, none⟩) HN10.out.2 (.slice C0 (nextC y d id).f0.length m0)) (p := ⟨b10, 1, none⟩) HN10.out.2 (.slice C1 (nextC y d id).f1.length m1))
            replace HNX := Aside0.mk (((HNX.out).set K10.out (fun n h => by cases h) (fun n h => by cases h) 0 (.slice C0 (nextC y d id).f0.length m0)).set (blk_put (cs := #[.slice none 0 0, .slice none 0 0]) K10.out 0 (.slice C0 (nextC y d id).f0.length m0) rfl) (fun n h => by cases h) (fun n h => by cases h) 1 (.slice C1 (nextC y d id).f1.length m1))
            replace HGOT := Aside0.mk ((((HGOT.out.below HB4.out)).set K10.out (fun n h => by cases h) (fun n h => by cases h) 0 (.slice C0 (nextC y d id).f0.length m0)).set (blk_put (cs := #[.slice none 0 0, .slice none 0 0]) K10.out 0 (.slice C0 (nextC y d id).f0.length m0) rfl) (fun n h => by cases h) (fun n h => by cases h) 1 (.slice C1 (nextC y d id).f1.length m1))
            replace K10 := Aside0.mk (blk_put (cs := #[.slice C0 (nextC y d id).f0.length m0, .slice none 0 0]) (blk_put (cs := #[.slice none 0 0, .slice none 0 0]) K10.out 0 (.slice C0 (nextC y d id).f0.length m0) rfl) 1 (.slice C1 (nextC y d id).f1.length m1) rfl)
            clear HCF HB4 HD3 HSS hHeld hW K10c0 K10c1 K10f0 K10f1 HG10
            generalize ((W.setCell ⟨b10, 0, none⟩ (.slice C0 (nextC y d id).f0.length m0)).setCell ⟨b10, 1, none⟩ (.slice C1 (nextC y d id).f1.length m1)) = w12 at HB K6 K8 HNX HGOT K10 ⊢
            clear W
            by_cases hne : nextE y d id = 0
            ·
              have t1 : (nextE y d id != 0) = false := by simpa using hne
              have HRY2 := Aside0.mk (Rt_next HRY.out hne)
              have HRU2 : Aside0 (runF x chs = runF (nextC y d id) (chs.drop (i + 1))) := ⟨by rw [HRN.out, if_neg (by simpa using hne)]⟩
              clear hne
              have K10c0 := (blk_cell K10.out 0).trans (show _ = some (.slice C0 (nextC y d id).f0.length m0) from rfl)
              have K10c1 := (blk_cell K10.out 1).trans (show _ = some (.slice C1 (nextC y d id).f1.length m1) from rfl)
              have K8c0 := (blk_cell K8.out 0).trans (show _ = some (.slice B0 y.f0.length d0) from rfl)
              have K8f0 := blk_frozen K8.out 0
              have K8c1 := (blk_cell K8.out 1).trans (show _ = some (.slice B1 y.f1.length d1) from rfl)
              have K8f1 := blk_frozen K8.out 1
              go_wp2_with fail
              go_roundg (chs.length - (i + 1))
              case measure => omega
              case rel => exact ⟨i + 1, nextC y d id, C0, m0, C1, m1, by go_num, by omega, HRY2, HRU2, ⟨blk_far (blk_far K6.out (p := ⟨b8, 0, none⟩) HN86.out.1 (.slice C0 (nextC y d id).f0.length m0)) (p := ⟨b8, 1, none⟩) HN86.out.1 (.slice C1 (nextC y d id).f1.length m1)⟩, ⟨blk_put (cs := #[.slice C0 (nextC y d id).f0.length m0, .slice B1 y.f1.length d1]) (blk_put (cs := #[.slice B0 y.f0.length d0, .slice B1 y.f1.length d1]) K8.out 0 (.slice C0 (nextC y d id).f0.length m0) rfl) 1 (.slice C1 (nextC y d id).f1.length m1) rfl⟩, ⟨((HNX.out).set K8.out (fun n h => by cases h) (fun n h => by cases h) 0 (.slice C0 (nextC y d id).f0.length m0)).set (blk_put (cs := #[.slice B0 y.f0.length d0, .slice B1 y.f1.length d1]) K8.out 0 (.slice C0 (nextC y d id).f0.length m0) rfl) (fun n h => by cases h) (fun n h => by cases h) 1 (.slice C1 (nextC y d id).f1.length m1)⟩, ⟨((HGOT.out).set K8.out (fun n h => by cases h) (fun n h => by cases h) 0 (.slice C0 (nextC y d id).f0.length m0)).set (blk_put (cs := #[.slice B0 y.f0.length d0, .slice B1 y.f1.length d1]) K8.out 0 (.slice C0 (nextC y d id).f0.length m0) rfl) (fun n h => by cases h) (fun n h => by cases h) 1 (.slice C1 (nextC y d id).f1.length m1)⟩, ⟨(HB.out.setCell (p := ⟨b8, 0, none⟩) HG8.out (.slice C0 (nextC y d id).f0.length m0)).setCell (p := ⟨b8, 1, none⟩) HG8.out (.slice C1 (nextC y d id).f1.length m1)⟩⟩
            ·
              have t1 : (nextE y d id != 0) = true := by simpa using hne
              have hr : res = (z67, nextE y d id) := by rw [← HE.out, HRN.out, if_pos (by simpa using hne)]
              have HR1 : Aside0 (res.1.f0 = [] ∧ res.1.f1 = []) := ⟨by rw [hr]; exact ⟨rfl, rfl⟩⟩
              have t2 : (res.2 == nextE y d id) = true := by rw [hr]; simp
              clear hr hne
              have K6c0 := (blk_cell K6.out 0).trans (show _ = some (.slice G0 res.1.f0.length k0) from rfl)
              have K6c1 := (blk_cell K6.out 1).trans (show _ = some (.slice G1 res.1.f1.length k1) from rfl)
              go_wp2_with fail
              refine (same_calls G0 G1 none none k0 k1 0 0 res.1 z67 w12 HGOT.out (CfR.nil w12) (by rw [HR1.out.1]; decide) (by rw [HR1.out.2]; decide)).mono ?_
              rintro e w13 ⟨rfl, hb⟩
              rw [show decide (res.1.f0 = z67.f0 ∧ res.1.f1 = z67.f1) = true from decide_eq_true HR1.out]
              clear K6c0 K6c1
              replace K6 := Aside0.mk (blk_below K6.out hb)
              replace K8 := Aside0.mk (blk_below K8.out hb)
              replace K10 := Aside0.mk (blk_below K10.out hb)
              replace HNX := Aside0.mk (HNX.out.below hb)
              replace HGOT := Aside0.mk (HGOT.out.below hb)
              replace HB := Aside0.mk (HB.out.trans (hb.mono HB.out.size))
              clear hb
              go_wp2_with fail
              go_ret
              exact ⟨rfl, HB.out⟩
          ·
            have hr : res = (y, 0) := by rw [← HE.out, HRU.out, List.drop_of_length_le (by omega)]; rfl
            have HR1 : Aside0 (res.1.f0 = y.f0 ∧ res.1.f1 = y.f1) := ⟨by rw [hr]; exact ⟨rfl, rfl⟩⟩
            have HLN : Aside0 (res.1.f0.length ≤ 1000000 ∧ res.1.f1.length ≤ 1000000) := ⟨by have := HRY.out.len; rw [hr]; show y.f0.length ≤ _ ∧ y.f1.length ≤ _; omega⟩
            have HRR : Aside0 (rtB res.1 = true) := ⟨by rw [hr]; exact rtB_iff.2 HRY.out⟩
            have t2 : (res.2 == 0) = true := by rw [hr]; rfl
            clear hr
            have K6c0 := (blk_cell K6.out 0).trans (show _ = some (.slice G0 res.1.f0.length k0) from rfl)
            have K6c1 := (blk_cell K6.out 1).trans (show _ = some (.slice G1 res.1.f1.length k1) from rfl)
            have K8c0 := (blk_cell K8.out 0).trans (show _ = some (.slice B0 y.f0.length d0) from rfl)
            have K8c1 := (blk_cell K8.out 1).trans (show _ = some (.slice B1 y.f1.length d1) from rfl)
            go_wp2_with fail
            refine (same_calls G0 G1 B0 B1 k0 k1 d0 d1 res.1 y wr HGOT.out HCF.out HLN.out.1 HLN.out.2).mono ?_
            rintro e w13 ⟨rfl, hb⟩
            rw [show decide (res.1.f0 = y.f0 ∧ res.1.f1 = y.f1) = true from decide_eq_true HR1.out]
            clear K6c0 K6c1 K8c0 K8c1
            replace K6 := Aside0.mk (blk_below K6.out hb)
            replace K8 := Aside0.mk (blk_below K8.out hb)
            replace HCF := Aside0.mk (HCF.out.below hb)
            replace HGOT := Aside0.mk (HGOT.out.below hb)
            replace HB := Aside0.mk (HB.out.trans (hb.mono HB.out.size))
            clear hb
            have K6c0 := (blk_cell K6.out 0).trans (show _ = some (.slice G0 res.1.f0.length k0) from rfl)
            have K6c1 := (blk_cell K6.out 1).trans (show _ = some (.slice G1 res.1.f1.length k1) from rfl)
            go_wp2_with fail
            have KB : Aside0 ((w13.alloc (Obj.cells #[.slice G0 res.1.f0.length k0, .slice G1 res.1.f1.length k1] 67)).heap[w13.heap.size]? = some (.cells #[.slice G0 res.1.f0.length k0, .slice G1 res.1.f1.length k1] 67 (0, 0))) := ⟨grown_new _ _⟩
            have HBA : Aside0 (Below w13.heap.size w13 (w13.alloc (Obj.cells #[.slice G0 res.1.f0.length k0, .slice G1 res.1.f1.length k1] 67))) := ⟨(Below.refl _ w13).alloc (Nat.le_refl _) _⟩
            have HCA := Aside0.mk (HGOT.out.below HBA.out)
            refine (right_calls (some ⟨w13.heap.size, 0, none⟩) 1 [res.1] (w13.alloc (Obj.cells #[.slice G0 res.1.f0.length k0, .slice G1 res.1.f1.length k1] 67)) (C_conf1 res.1 KB.out HCA.out.l0 HCA.out.g0 HCA.out.l1 HCA.out.g1) (fun y hy => by simp at hy; subst hy; exact HLN.out)).mono ?_
            rintro e w14 ⟨rfl, hb⟩
            rw [show [res.1].all rtB = true from by simp [HRR.out]]
            have HB9 := Aside0.mk (HB.out.trans ((HBA.out.trans (hb.mono HBA.out.size)).mono HB.out.size))
            clear hb KB HBA HCA
            clear K6c0 K6c1
            go_wp2_with fail
            go_ret
            exact ⟨rfl, HB9.out⟩
end Go.Proofs.Ytkeadpichlgagaa.Me
