/- members: the document's Next, walked. -/
import Derived.Test.YtkeadpichlgagaaMeI
namespace Go.Proofs.Ytkeadpichlgagaa.Me
open Go.RowKit Go.Lib Go.Sort Go.Shelf Go.Proofs.YtkeadpichlgagaaW.PrintWords Go.Proofs.YtkeadpichlgagaaW.PrintLast Go.Proofs.YtkeadpichlgagaaW.PrintMore
open Go.Proofs.Ytkeadpichlgagaa.PMembersNext Go.Proofs.Ytkeadpichlgagaa.Mp
set_option linter.unusedVariables false
set_option linter.unusedSimpArgs false
set_option linter.unnecessarySimpa false

theorem drop_calls (A : Option Addr) (c : Nat) (xs : List Int) (a : Int) (w : World) (hC : (Kd.int .i64).C w A xs.length xs) (hc : xs.length ≤ c) (hl : xs.length ≤ 1000000) :
    Calls Try.prog 101 #[.slice A xs.length c, .int .i64 a] w fun e w' => ∃ v, e = .returned v ∧ R3 w' w.heap.size v (dropF xs a) ∧ Below w.heap.size w w' := by
  obtain ⟨k, hk⟩ := (drop_ev xs a (by omega)).rounds
  exact (echelonref08_drop.calls k A c xs a _ w hC hc hk).mono fun e w' ⟨v, he, hr, hb⟩ => ⟨v, he, (R3_of_own (own_of_R3 hr)).1, hb⟩
theorem put_calls (A : Option Addr) (c : Nat) (xs : List Int) (a : Int) (w : World) (hC : (Kd.int .i64).C w A xs.length xs) (hc : xs.length ≤ c) (hl : xs.length ≤ 1000000) :
    Calls Try.prog 102 #[.slice A xs.length c, .int .i64 a] w fun e w' => ∃ v, e = .returned v ∧ R3 w' w.heap.size v (putF a xs) ∧ Below w.heap.size w w' := by
  obtain ⟨k, hk⟩ := (put_ev xs a (by omega)).rounds
  exact (echelonref08_put.calls k A c xs a _ w hC hc hk).mono fun e w' ⟨v, he, hr, hb⟩ => ⟨v, he, (R3_of_own (own_of_R3 hr)).1, hb⟩
theorem in_calls (A : Option Addr) (c : Nat) (xs : List Int) (a : Int) (w : World) (hC : (Kd.int .i64).C w A xs.length xs) (hc : xs.length ≤ c) (hl : xs.length ≤ 1000000) :
    Calls Try.prog 56 #[.slice A xs.length c, .int .i64 a] w fun e w' => e = .returned (.bool (decide (a ∈ xs))) ∧ Below w.heap.size w w' := by
  obtain ⟨k, hk⟩ := (in_ev xs a (by omega)).rounds
  exact (echelonref08_In.calls k A c xs a _ w hC hc hk).mono fun e w' ⟨he, hd⟩ => ⟨he, by obtain ⟨n, rfl⟩ := hd.out; exact pw_below_drewN (Below.refl _ _) n⟩
theorem dropF_neg {x : S67} (h : Ris x.f0) : dropF x.f0 (-1) = x.f0 := dropF_self (fun hm => by have := h.bd _ hm; omega)
set_option maxHeartbeats 4000000 in
set_option maxRecDepth 100000 in
theorem refnext_calls (A0 A1 : Option Addr) (c0 c1 : Nat) (x : S67) (d id : Int) (w : World) (hx : CfR w x A0 c0 A1 c1) (ht : Rt x) :
    Calls Try.prog 62 #[.agg #[.slice A0 x.f0.length c0, .slice A1 x.f1.length c1], .agg #[.int .i64 d, .int .i64 id]] w (NextQ w (nextC x d id) (nextE x d id)) := by
  have hu67 := Try.underlying67
  have hu84 := Try.underlying84
  have HX := Aside0.mk hx
  have HT := Aside0.mk ht
  have hlen := ht.len
  clear hx ht
  go_enter Try.func62, Try.ntmps62
  go_upto_region 1 with fail
  have HBW : Aside0 (Below w.heap.size w (((w.alloc (Obj.cells #[Value.slice A0 x.f0.length c0, Value.slice A1 x.f1.length c1] 67)).alloc (Obj.cells #[Value.int IntKind.i64 d, Value.int IntKind.i64 id] 84)).alloc (Obj.cells #[Value.slice none 0 0, Value.slice none 0 0] 67))) := ⟨(((Below.refl _ w).alloc (Nat.le_refl _) _).alloc (by simp) _).alloc (by simp; omega) _⟩
  have K0 := Aside0.mk (blk_alloc (blk_alloc (grown_new (w := w) #[Value.slice A0 x.f0.length c0, Value.slice A1 x.f1.length c1] 67) (Obj.cells #[Value.int IntKind.i64 d, Value.int IntKind.i64 id] 84)) (Obj.cells #[Value.slice none 0 0, Value.slice none 0 0] 67))
  have K1 := Aside0.mk (blk_alloc (grown_new (w := w.alloc (Obj.cells #[Value.slice A0 x.f0.length c0, Value.slice A1 x.f1.length c1] 67)) #[Value.int IntKind.i64 d, Value.int IntKind.i64 id] 84) (Obj.cells #[Value.slice none 0 0, Value.slice none 0 0] 67))
  have K2 := Aside0.mk (grown_new (w := (w.alloc (Obj.cells #[Value.slice A0 x.f0.length c0, Value.slice A1 x.f1.length c1] 67)).alloc (Obj.cells #[Value.int IntKind.i64 d, Value.int IntKind.i64 id] 84)) #[Value.slice none 0 0, Value.slice none 0 0] 67)
  simp only [World.size_alloc] at K1 K2
  generalize ((w.alloc (Obj.cells #[Value.slice A0 x.f0.length c0, Value.slice A1 x.f1.length c1] 67)).alloc (Obj.cells #[Value.int IntKind.i64 d, Value.int IntKind.i64 id] 84)).alloc (Obj.cells #[Value.slice none 0 0, Value.slice none 0 0] 67) = w1 at HBW K0 K1 K2 ⊢
  obtain ⟨b0, hb0⟩ : ∃ b, w.heap.size = b := ⟨_, rfl⟩
  obtain ⟨b1, hb1⟩ : ∃ b, w.heap.size + 1 = b := ⟨_, rfl⟩
  obtain ⟨b2, hb2⟩ : ∃ b, w.heap.size + 1 + 1 = b := ⟨_, rfl⟩
  have HG : Aside0 (w.heap.size ≤ b0 ∧ w.heap.size ≤ b1 ∧ w.heap.size ≤ b2) := ⟨by omega, by omega, by omega⟩
  have hn1 : b0 ≠ b1 := by omega
  have hn2 : b0 ≠ b2 := by omega
  have hn3 : b1 ≠ b2 := by omega
  have HN := Aside0.mk (And.intro hn1 (And.intro hn2 hn3))
  rw [hb2] at K2 ⊢
  rw [hb1] at K1 ⊢
  rw [hb0] at K0 ⊢
  clear hb0 hb1 hb2 hn1 hn2 hn3
  have HCF := Aside0.mk (HX.out.below HBW.out)
  have a0 := (blk_cell K0.out 0).trans (show _ = some (Value.slice A0 x.f0.length c0) from rfl)
  have a1 := (blk_cell K0.out 1).trans (show _ = some (Value.slice A1 x.f1.length c1) from rfl)
  have d0 := (blk_cell K1.out 0).trans (show _ = some (Value.int .i64 d) from rfl)
  have d1 := (blk_cell K1.out 1).trans (show _ = some (Value.int .i64 id) from rfl)
  have r0 := (blk_cell K2.out 0).trans (show _ = some (Value.slice none 0 0) from rfl)
  have r1 := (blk_cell K2.out 1).trans (show _ = some (Value.slice none 0 0) from rfl)
  have q0 := blk_frozen K2.out 0
  have q1 := blk_frozen K2.out 1
  by_cases hbad : d < 1 ∨ 3 < d ∨ id < 0 ∨ 1048576 ≤ id
  · have HE : Aside0 (nextE x d id = 2) := ⟨by unfold nextE; rw [if_pos hbad]⟩
    have HC : Aside0 (nextC x d id = z67) := ⟨by unfold nextC; rw [HE.out, if_pos (by decide)]⟩
    by_cases h1 : d < 1
    · have t1 : decide (d < 1) = true := decide_eq_true h1
      clear hbad h1
      go_wp2_with fail
      refine bodyPost_ret (results_ct rfl _ _ b2 67 #[.slice none 0 0, .slice none 0 0] (0, 0) _ rfl (blk_put (cs := #[.slice none 0 0, .slice none 0 0]) (blk_put (cs := #[.slice none 0 0, .slice none 0 0]) K2.out 0 _ rfl) 1 _ rfl) Try.underlying67 rfl (by kernel_rfl)) rfl ?_
      rw [HC.out, HE.out]
      exact ⟨_, rfl, cfv_nil _, (HBW.out.setCell (p := ⟨b2, 0, none⟩) HG.out.2.2 _).setCell (p := ⟨b2, 1, none⟩) HG.out.2.2 _⟩
    · have t1 : decide (d < 1) = false := decide_eq_false h1
      by_cases h2 : 3 < d
      · have t2 : decide (3 < d) = true := decide_eq_true h2
        clear hbad h1 h2
        go_wp2_with fail
        refine bodyPost_ret (results_ct rfl _ _ b2 67 #[.slice none 0 0, .slice none 0 0] (0, 0) _ rfl (blk_put (cs := #[.slice none 0 0, .slice none 0 0]) (blk_put (cs := #[.slice none 0 0, .slice none 0 0]) K2.out 0 _ rfl) 1 _ rfl) Try.underlying67 rfl (by kernel_rfl)) rfl ?_
        rw [HC.out, HE.out]
        exact ⟨_, rfl, cfv_nil _, (HBW.out.setCell (p := ⟨b2, 0, none⟩) HG.out.2.2 _).setCell (p := ⟨b2, 1, none⟩) HG.out.2.2 _⟩
      · have t2 : decide (3 < d) = false := decide_eq_false h2
        by_cases h3 : id < 0
        · have t3 : decide (id < 0) = true := decide_eq_true h3
          clear hbad h1 h2 h3
          go_wp2_with fail
          refine bodyPost_ret (results_ct rfl _ _ b2 67 #[.slice none 0 0, .slice none 0 0] (0, 0) _ rfl (blk_put (cs := #[.slice none 0 0, .slice none 0 0]) (blk_put (cs := #[.slice none 0 0, .slice none 0 0]) K2.out 0 _ rfl) 1 _ rfl) Try.underlying67 rfl (by kernel_rfl)) rfl ?_
          rw [HC.out, HE.out]
          exact ⟨_, rfl, cfv_nil _, (HBW.out.setCell (p := ⟨b2, 0, none⟩) HG.out.2.2 _).setCell (p := ⟨b2, 1, none⟩) HG.out.2.2 _⟩
        · have t3 : decide (id < 0) = false := decide_eq_false h3
          have t4 : decide (1048575 < id) = true := decide_eq_true (by omega)
          clear hbad h1 h2 h3
          go_wp2_with fail
          refine bodyPost_ret (results_ct rfl _ _ b2 67 #[.slice none 0 0, .slice none 0 0] (0, 0) _ rfl (blk_put (cs := #[.slice none 0 0, .slice none 0 0]) (blk_put (cs := #[.slice none 0 0, .slice none 0 0]) K2.out 0 _ rfl) 1 _ rfl) Try.underlying67 rfl (by kernel_rfl)) rfl ?_
          rw [HC.out, HE.out]
          exact ⟨_, rfl, cfv_nil _, (HBW.out.setCell (p := ⟨b2, 0, none⟩) HG.out.2.2 _).setCell (p := ⟨b2, 1, none⟩) HG.out.2.2 _⟩
  · have t3 : decide (id < 0) = false := decide_eq_false (by omega)
    have t4 : decide (1048575 < id) = false := decide_eq_false (by omega)
    have t1 : decide (d < 1) = false := decide_eq_false (by omega)
    have t2 : decide (3 < d) = false := decide_eq_false (by omega)
    have HNB := Aside0.mk hbad
    obtain hd : d = 1 ∨ d = 2 ∨ d = 3 := by omega
    clear hbad
    go_wp2_with fail
    refine (in_calls A0 c0 x.f0 id w1 HCF.out.g0 HCF.out.l0 (by omega)).mono ?_
    rintro e w2 ⟨rfl, hb⟩
    have hbb := hb
    clear hb
    replace HBW := Aside0.mk (HBW.out.trans (hbb.mono HBW.out.size))
    replace K0 := Aside0.mk (blk_below K0.out hbb)
    replace K1 := Aside0.mk (blk_below K1.out hbb)
    replace K2 := Aside0.mk (blk_below K2.out hbb)
    replace HCF := Aside0.mk (HCF.out.below hbb)
    clear hbb a0 a1 d0 d1 r0 r1 q0 q1
    have a0 := (blk_cell K0.out 0).trans (show _ = some (Value.slice A0 x.f0.length c0) from rfl)
    have a1 := (blk_cell K0.out 1).trans (show _ = some (Value.slice A1 x.f1.length c1) from rfl)
    have d0 := (blk_cell K1.out 0).trans (show _ = some (Value.int .i64 d) from rfl)
    have d1 := (blk_cell K1.out 1).trans (show _ = some (Value.int .i64 id) from rfl)
    have r0 := (blk_cell K2.out 0).trans (show _ = some (Value.slice none 0 0) from rfl)
    have r1 := (blk_cell K2.out 1).trans (show _ = some (Value.slice none 0 0) from rfl)
    have q0 := blk_frozen K2.out 0
    have q1 := blk_frozen K2.out 1
    go_wp2_with fail
    refine (in_calls A1 c1 x.f1 id w2 HCF.out.g1 HCF.out.l1 (by omega)).mono ?_
    rintro e w3 ⟨rfl, hbb⟩
    replace HBW := Aside0.mk (HBW.out.trans (hbb.mono HBW.out.size))
    replace K0 := Aside0.mk (blk_below K0.out hbb)
    replace K1 := Aside0.mk (blk_below K1.out hbb)
    replace K2 := Aside0.mk (blk_below K2.out hbb)
    replace HCF := Aside0.mk (HCF.out.below hbb)
    clear hbb a0 a1 d0 d1 r0 r1 q0 q1
    have a0 := (blk_cell K0.out 0).trans (show _ = some (Value.slice A0 x.f0.length c0) from rfl)
    have a1 := (blk_cell K0.out 1).trans (show _ = some (Value.slice A1 x.f1.length c1) from rfl)
    have d0 := (blk_cell K1.out 0).trans (show _ = some (Value.int .i64 d) from rfl)
    have d1 := (blk_cell K1.out 1).trans (show _ = some (Value.int .i64 id) from rfl)
    have r0 := (blk_cell K2.out 0).trans (show _ = some (Value.slice none 0 0) from rfl)
    have r1 := (blk_cell K2.out 1).trans (show _ = some (Value.slice none 0 0) from rfl)
    have q0 := blk_frozen K2.out 0
    have q1 := blk_frozen K2.out 1
    generalize hvb : decide (id ∈ x.f0) = vb
    have HVB := Aside0.mk hvb
    generalize hlb : decide (id ∈ x.f1) = lb
    have HLB := Aside0.mk hlb
    clear hvb hlb
    rcases hd with rfl | rfl | rfl
    · by_cases hin : vb = true ∨ lb = true
      · have HE : Aside0 (nextE x 1 id = 80) := ⟨by
          unfold nextE
          rw [if_neg HNB.out, if_pos]
          rcases hin with h | h
          · rw [h] at HVB; exact .inl ⟨rfl, .inl (of_decide_eq_true HVB.out)⟩
          · rw [h] at HLB; exact .inl ⟨rfl, .inr (.inl (of_decide_eq_true HLB.out))⟩⟩
        have HC : Aside0 (nextC x 1 id = z67) := ⟨by unfold nextC; rw [HE.out, if_pos (by decide)]⟩
        cases vb with
        | true =>
          clear hin
          go_wp2_with fail
          refine bodyPost_ret (results_ct rfl _ _ b2 67 #[.slice none 0 0, .slice none 0 0] (0, 0) _ rfl (blk_put (cs := #[.slice none 0 0, .slice none 0 0]) (blk_put (cs := #[.slice none 0 0, .slice none 0 0]) K2.out 0 _ rfl) 1 _ rfl) Try.underlying67 rfl (by kernel_rfl)) rfl ?_
          rw [HC.out, HE.out]
          exact ⟨_, rfl, cfv_nil _, (HBW.out.setCell (p := ⟨b2, 0, none⟩) HG.out.2.2 _).setCell (p := ⟨b2, 1, none⟩) HG.out.2.2 _⟩
        | false =>
          have hl : lb = true := by simpa using hin
          subst hl
          clear hin
          go_wp2_with fail
          refine bodyPost_ret (results_ct rfl _ _ b2 67 #[.slice none 0 0, .slice none 0 0] (0, 0) _ rfl (blk_put (cs := #[.slice none 0 0, .slice none 0 0]) (blk_put (cs := #[.slice none 0 0, .slice none 0 0]) K2.out 0 _ rfl) 1 _ rfl) Try.underlying67 rfl (by kernel_rfl)) rfl ?_
          rw [HC.out, HE.out]
          exact ⟨_, rfl, cfv_nil _, (HBW.out.setCell (p := ⟨b2, 0, none⟩) HG.out.2.2 _).setCell (p := ⟨b2, 1, none⟩) HG.out.2.2 _⟩
      · obtain ⟨rfl, rfl⟩ : vb = false ∧ lb = false := by simpa using hin
        clear hin
        by_cases h9 : 9 ≤ x.f0.length + x.f1.length
        · have t9 : decide ((9 : Int) ≤ (x.f0.length : Int) + (x.f1.length : Int)) = true := decide_eq_true (by omega)
          have t9' : decide (9 ≤ x.f0.length + x.f1.length) = true := decide_eq_true h9
          have HE : Aside0 (nextE x 1 id = 80) := ⟨by
            unfold nextE
            rw [if_neg HNB.out, if_pos]
            exact .inl ⟨rfl, .inr (.inr h9)⟩⟩
          have HC : Aside0 (nextC x 1 id = z67) := ⟨by unfold nextC; rw [HE.out, if_pos (by decide)]⟩
          clear h9
          go_wp2_with fail
          refine bodyPost_ret (results_ct rfl _ _ b2 67 #[.slice none 0 0, .slice none 0 0] (0, 0) _ rfl (blk_put (cs := #[.slice none 0 0, .slice none 0 0]) (blk_put (cs := #[.slice none 0 0, .slice none 0 0]) K2.out 0 _ rfl) 1 _ rfl) Try.underlying67 rfl (by kernel_rfl)) rfl ?_
          rw [HC.out, HE.out]
          exact ⟨_, rfl, cfv_nil _, (HBW.out.setCell (p := ⟨b2, 0, none⟩) HG.out.2.2 _).setCell (p := ⟨b2, 1, none⟩) HG.out.2.2 _⟩
        · have t9 : decide ((9 : Int) ≤ (x.f0.length : Int) + (x.f1.length : Int)) = false := decide_eq_false (by omega)
          have t9' : decide (9 ≤ x.f0.length + x.f1.length) = false := decide_eq_false h9
          have HE : Aside0 (nextE x 1 id = 0) := ⟨by
            unfold nextE
            rw [if_neg HNB.out, if_neg, if_neg (fun h => absurd h.1 (by decide))]
            rintro (⟨_, h | h | h⟩ | ⟨h, _⟩ | ⟨h, _⟩)
            · exact of_decide_eq_false HVB.out h
            · exact of_decide_eq_false HLB.out h
            · exact h9 h
            · exact absurd h (by decide)
            · exact absurd h (by decide)⟩
          have HC : Aside0 (nextC x 1 id = ⟨dropF x.f0 (-1), putF id x.f1⟩) := ⟨by unfold nextC; rw [HE.out, if_neg (by decide), if_pos rfl, dropF_neg HT.out.r0]⟩
          clear h9
          have HD3 : Aside0 (Below w3.heap.size w3 w3.drew) := ⟨(Below.refl _ _).drew⟩
          have HSS : Aside0 (∀ W, Below w3.heap.size w3 W → W.cell? ⟨b0, 0, none⟩ = some (.slice A0 x.f0.length c0) ∧ W.cell? ⟨b0, 1, none⟩ = some (.slice A1 x.f1.length c1) ∧ W.cell? ⟨b1, 1, none⟩ = some (.int .i64 id)) := ⟨fun W hW => ⟨(blk_cell (blk_below K0.out hW) 0).trans rfl, (blk_cell (blk_below K0.out hW) 1).trans rfl, (blk_cell (blk_below K1.out hW) 1).trans rfl⟩⟩
          go_upto_region 8 with fail
          clear d0 r0 r1 q0 q1 a0 a1 d1
          refine start_ (n := 11) (S := fun w' => w'.cell? ⟨b0, 0, none⟩ = some (.slice A0 x.f0.length c0) ∧ w'.cell? ⟨b0, 1, none⟩ = some (.slice A1 x.f1.length c1) ∧ w'.cell? ⟨b1, 1, none⟩ = some (.int .i64 id)) (ds := [9]) #[false, false, false, false, false, false, false, false, false, false, false] (by kernel_rfl) rfl rfl (HSS.out _ HD3.out) (fun hHeld => ?_)
          refine pure_ (i := 0) (N := some 55) (v := ?_) (a' := ?_) #[true, false, false, false, false, false, false, false, false, false, false] rfl rfl (by kernel_rfl) (fun _ _ _ h => h) (Or.inl ⟨by rfl, ?_⟩) ?_ ?_
          rotate_left
          · intro w'
            go_simp
            with_reducible rfl
          rotate_left
          · simp only [Act.put, List.setIfInBounds_toArray, List.set_cons_zero, List.set_cons_succ, i64_w, i32_w]
            rfl
          refine pure_ (i := 3) (N := some 58) (v := ?_) (a' := ?_) #[true, false, false, true, false, false, false, false, false, false, false] rfl rfl (by kernel_rfl) (fun _ _ _ h => h) (Or.inl ⟨by rfl, ?_⟩) ?_ ?_
          rotate_left
          · intro w'
            go_simp
            with_reducible rfl
          rotate_left
          · simp only [Act.put, List.setIfInBounds_toArray, List.set_cons_zero, List.set_cons_succ, i64_w, i32_w]
            rfl
          refine pure_ (i := 5) (N := some 60) (v := ?_) (a' := ?_) #[true, false, false, true, false, true, false, false, false, false, false] rfl rfl (by kernel_rfl) (fun _ _ _ h => h) (Or.inl ⟨by rfl, ?_⟩) ?_ ?_
          rotate_left
          · intro w'
            go_simp
            with_reducible rfl
          rotate_left
          · simp only [Act.put, List.setIfInBounds_toArray, List.set_cons_zero, List.set_cons_succ, i64_w, i32_w]
            rfl
          refine take_ (i := 1) (N := some 56) (v := ?_) (a' := ?_) #[true, true, false, true, false, true, false, false, false, false, false] rfl rfl (by kernel_rfl) (fun _ _ _ h => h) (Or.inl ⟨by rfl, ?_⟩) hHeld ?_ ?_
          rotate_left
          · rintro w' ⟨s0, s1, s2⟩
            go_simp
            with_reducible rfl
          rotate_left
          · simp only [Act.put, List.setIfInBounds_toArray, List.set_cons_zero, List.set_cons_succ, i64_w, i32_w]
            rfl
          refine take_ (i := 4) (N := some 59) (v := ?_) (a' := ?_) #[true, true, false, true, true, true, false, false, false, false, false] rfl rfl (by kernel_rfl) (fun _ _ _ h => h) (Or.inl ⟨by rfl, ?_⟩) hHeld ?_ ?_
          rotate_left
          · rintro w' ⟨s0, s1, s2⟩
            go_simp
            with_reducible rfl
          rotate_left
          · simp only [Act.put, List.setIfInBounds_toArray, List.set_cons_zero, List.set_cons_succ, i64_w, i32_w]
            rfl
          refine take_ (i := 6) (N := some 61) (v := ?_) (a' := ?_) #[true, true, false, true, true, true, true, false, false, false, false] rfl rfl (by kernel_rfl) (fun _ _ _ h => h) (Or.inl ⟨by rfl, ?_⟩) hHeld ?_ ?_
          rotate_left
          · rintro w' ⟨s0, s1, s2⟩
            go_simp
            with_reducible rfl
          rotate_left
          · simp only [Act.put, List.setIfInBounds_toArray, List.set_cons_zero, List.set_cons_succ, i64_w, i32_w]
            rfl
          refine one_ (i := 2) (N := some 57) #[true, true, true, true, true, true, true, false, false, false, false] rfl rfl (by kernel_rfl) (by decide) (fun K hK => ?_)
          refine goes_ Try.func101 (by kernel_rfl) rfl #[.slice A0 x.f0.length c0, .int .i64 (-1)] (by rfl) rfl rfl (by (try simp only [List.map_toArray, List.map_cons, List.map_nil]); first | done | rfl) ?_
          refine (drop_calls A0 c0 x.f0 (-1) w3.drew (HCF.out.below HD3.out).g0 (HCF.out.below HD3.out).l0 (by omega)).mono ?_
          rintro e w6 ⟨v6, rfl, hr6, hb6⟩
          obtain ⟨A6, c6, rfl⟩ := Kd.R_slice hr6
          have HR6 := Aside0.mk hr6
          have HB66 := Aside0.mk (HD3.out.trans (hb6.mono HD3.out.size))
          clear hr6 hb6
          refine ⟨_, rfl, ?_⟩
          refine hK.out _ _ (HSS.out _ HB66.out) (fun hHeld => ?_)
          clear hK K
          refine norm_ (a' := ?_) ?_ ?_
          rotate_left
          · show Act.put _ (some 57) _ = _
            simp only [Act.put, List.setIfInBounds_toArray, List.set_cons_zero, List.set_cons_succ, i64_w, i32_w]
            rfl
          refine one_ (i := 7) (N := some 62) #[true, true, true, true, true, true, true, true, false, false, false] rfl rfl (by kernel_rfl) (by decide) (fun K hK => ?_)
          refine goes_ Try.func102 (by kernel_rfl) rfl #[.slice A1 x.f1.length c1, .int .i64 id] (by rfl) rfl rfl (by (try simp only [List.map_toArray, List.map_cons, List.map_nil]); first | done | rfl) ?_
          refine (put_calls A1 c1 x.f1 id w6 (HCF.out.below HB66.out).g1 (HCF.out.below HB66.out).l1 (by omega)).mono ?_
          rintro e w7 ⟨v7, rfl, hr7, hb7⟩
          obtain ⟨A7, c7, rfl⟩ := Kd.R_slice hr7
          have HR67 := Aside0.mk (Kd.R_below HR6.out hb7)
          have HR7 := Aside0.mk hr7
          have HB77 := Aside0.mk (HB66.out.trans (hb7.mono HB66.out.size))
          have HLT : Aside0 (b2 < w6.heap.size ∧ b2 < w3.drew.heap.size) := ⟨⟨Nat.lt_of_lt_of_le (blk_lt K2.out) HB66.out.size, blk_lt K2.out⟩⟩
          have K27 := Aside0.mk (blk_below K2.out HB77.out)
          have r07 := (blk_cell K27.out 0).trans (show _ = some (Value.slice none 0 0) from rfl)
          have r17 := (blk_cell K27.out 1).trans (show _ = some (Value.slice none 0 0) from rfl)
          have q07 := blk_frozen K27.out 0
          have q17 := blk_frozen K27.out 1
          clear hr7 hb7 HR6
          refine ⟨_, rfl, ?_⟩
          refine hK.out _ _ (HSS.out _ HB77.out) (fun hHeld => ?_)
          clear hK K
          refine norm_ (a' := ?_) ?_ ?_
          rotate_left
          · show Act.put _ (some 62) _ = _
            simp only [Act.put, List.setIfInBounds_toArray, List.set_cons_zero, List.set_cons_succ, i64_w, i32_w]
            rfl
          refine pure_ (i := 8) (N := some 63) (v := ?_) (a' := ?_) #[true, true, true, true, true, true, true, true, true, false, false] rfl rfl (by kernel_rfl) (fun _ _ _ h => h) (Or.inl ⟨by rfl, ?_⟩) ?_ ?_
          rotate_left
          · intro w'
            go_simp
            with_reducible rfl
          rotate_left
          · simp only [Act.put, List.setIfInBounds_toArray, List.set_cons_zero, List.set_cons_succ, i64_w, i32_w]
            rfl
          refine last_ (i := 9) (N := none) #[true, true, true, true, true, true, true, true, true, true, false] rfl rfl (by kernel_rfl) (by decide) (fun K hK => ?_)
          refine skip_ (w1 := ?_) (by rfl) rfl ?_ ?_
          rotate_left
          · go_simp
            rfl
          refine hK.out _ _ ?_
          clear hK K
          refine pure_ (i := 10) (N := some 5) (v := ?_) (a' := ?_) #[true, true, true, true, true, true, true, true, true, true, true] rfl rfl (by kernel_rfl) (fun _ _ _ h => h) (Or.inl ⟨by rfl, ?_⟩) ?_ ?_
          rotate_left
          · intro w'
            go_simp
            with_reducible rfl
          rotate_left
          · simp only [Act.put, List.setIfInBounds_toArray, List.set_cons_zero, List.set_cons_succ, i64_w, i32_w]
            rfl
          refine done_ (by kernel_rfl) ?_
          go_wp2_with fail
          refine bodyPost_ret (results_ct rfl _ _ b2 67 #[.slice A6 (dropF x.f0 (-1)).length c6, .slice A7 (putF id x.f1).length c7] (0, 0) _ rfl (blk_put (cs := #[.slice A6 (dropF x.f0 (-1)).length c6, .slice none 0 0]) (blk_put (cs := #[.slice none 0 0, .slice none 0 0]) K27.out 0 _ rfl) 1 _ rfl) Try.underlying67 rfl (by kernel_rfl)) rfl ?_
          rw [HC.out, HE.out]
          have hB := ((HBW.out.trans (HB77.out.mono HBW.out.size)).setCell (p := ⟨b2, 0, none⟩) HG.out.2.2 (.slice A6 (dropF x.f0 (-1)).length c6)).setCell (p := ⟨b2, 1, none⟩) HG.out.2.2 (.slice A7 (putF id x.f1).length c7)
          have hR6 := Kd.R_far (Kd.R_far HR67.out (p := ⟨b2, 0, none⟩) (fun k hk => by have := HLT.out.2; show k ≠ b2; omega) (.slice A6 (dropF x.f0 (-1)).length c6)) (p := ⟨b2, 1, none⟩) (fun k hk => by have := HLT.out.2; show k ≠ b2; omega) (.slice A7 (putF id x.f1).length c7)
          have hR7 := Kd.R_far (Kd.R_far HR7.out (p := ⟨b2, 0, none⟩) (fun k hk => by have := HLT.out.1; show k ≠ b2; omega) (.slice A6 (dropF x.f0 (-1)).length c6)) (p := ⟨b2, 1, none⟩) (fun k hk => by have := HLT.out.1; show k ≠ b2; omega) (.slice A7 (putF id x.f1).length c7)
          exact ⟨_, rfl, ⟨A6, c6, A7, c7, rfl, (Kd.R_reads' hR6).2.2, (Kd.R_reads' hR6).2.1, (Kd.R_reads' hR7).2.2, (Kd.R_reads' hR7).2.1⟩, hB⟩
    · cases lb with
      | false =>
        have HE : Aside0 (nextE x 2 id = 80) := ⟨by
          unfold nextE
          rw [if_neg HNB.out, if_pos]
          exact .inr (.inl ⟨rfl, of_decide_eq_false HLB.out⟩)⟩
        have HC : Aside0 (nextC x 2 id = z67) := ⟨by unfold nextC; rw [HE.out, if_pos (by decide)]⟩
        go_wp2_with fail
        refine bodyPost_ret (results_ct rfl _ _ b2 67 #[.slice none 0 0, .slice none 0 0] (0, 0) _ rfl (blk_put (cs := #[.slice none 0 0, .slice none 0 0]) (blk_put (cs := #[.slice none 0 0, .slice none 0 0]) K2.out 0 _ rfl) 1 _ rfl) Try.underlying67 rfl (by kernel_rfl)) rfl ?_
        rw [HC.out, HE.out]
        exact ⟨_, rfl, cfv_nil _, (HBW.out.setCell (p := ⟨b2, 0, none⟩) HG.out.2.2 _).setCell (p := ⟨b2, 1, none⟩) HG.out.2.2 _⟩
      | true =>
        have HE : Aside0 (nextE x 2 id = 0) := ⟨by
          unfold nextE
          rw [if_neg HNB.out, if_neg, if_neg (fun h => absurd h.1 (by decide))]
          rintro (⟨h, _⟩ | ⟨_, h⟩ | ⟨h, _⟩)
          · exact absurd h (by decide)
          · exact h (of_decide_eq_true HLB.out)
          · exact absurd h (by decide)⟩
        have HC : Aside0 (nextC x 2 id = ⟨putF id x.f0, dropF x.f1 id⟩) := ⟨by unfold nextC; rw [HE.out, if_neg (by decide), if_neg (by decide), if_pos rfl]⟩
        have HD3 : Aside0 (Below w3.heap.size w3 w3.drew) := ⟨(Below.refl _ _).drew⟩
        have HSS : Aside0 (∀ W, Below w3.heap.size w3 W → W.cell? ⟨b0, 0, none⟩ = some (.slice A0 x.f0.length c0) ∧ W.cell? ⟨b0, 1, none⟩ = some (.slice A1 x.f1.length c1) ∧ W.cell? ⟨b1, 1, none⟩ = some (.int .i64 id)) := ⟨fun W hW => ⟨(blk_cell (blk_below K0.out hW) 0).trans rfl, (blk_cell (blk_below K0.out hW) 1).trans rfl, (blk_cell (blk_below K1.out hW) 1).trans rfl⟩⟩
        go_upto_region 12 with fail
        clear d0 r0 r1 q0 q1 a0 a1 d1
        refine start_ (n := 13) (S := fun w' => w'.cell? ⟨b0, 0, none⟩ = some (.slice A0 x.f0.length c0) ∧ w'.cell? ⟨b0, 1, none⟩ = some (.slice A1 x.f1.length c1) ∧ w'.cell? ⟨b1, 1, none⟩ = some (.int .i64 id)) (ds := [11]) #[false, false, false, false, false, false, false, false, false, false, false, false, false] (by kernel_rfl) rfl rfl (HSS.out _ HD3.out) (fun hHeld => ?_)
        refine pure_ (i := 0) (N := some 70) (v := ?_) (a' := ?_) #[true, false, false, false, false, false, false, false, false, false, false, false, false] rfl rfl (by kernel_rfl) (fun _ _ _ h => h) (Or.inl ⟨by rfl, ?_⟩) ?_ ?_
        rotate_left
        · intro w'
          go_simp
          with_reducible rfl
        rotate_left
        · simp only [Act.put, List.setIfInBounds_toArray, List.set_cons_zero, List.set_cons_succ, i64_w, i32_w]
          rfl
        refine pure_ (i := 2) (N := some 72) (v := ?_) (a' := ?_) #[true, false, true, false, false, false, false, false, false, false, false, false, false] rfl rfl (by kernel_rfl) (fun _ _ _ h => h) (Or.inl ⟨by rfl, ?_⟩) ?_ ?_
        rotate_left
        · intro w'
          go_simp
          with_reducible rfl
        rotate_left
        · simp only [Act.put, List.setIfInBounds_toArray, List.set_cons_zero, List.set_cons_succ, i64_w, i32_w]
          rfl
        refine pure_ (i := 5) (N := some 75) (v := ?_) (a' := ?_) #[true, false, true, false, false, true, false, false, false, false, false, false, false] rfl rfl (by kernel_rfl) (fun _ _ _ h => h) (Or.inl ⟨by rfl, ?_⟩) ?_ ?_
        rotate_left
        · intro w'
          go_simp
          with_reducible rfl
        rotate_left
        · simp only [Act.put, List.setIfInBounds_toArray, List.set_cons_zero, List.set_cons_succ, i64_w, i32_w]
          rfl
        refine pure_ (i := 7) (N := some 77) (v := ?_) (a' := ?_) #[true, false, true, false, false, true, false, true, false, false, false, false, false] rfl rfl (by kernel_rfl) (fun _ _ _ h => h) (Or.inl ⟨by rfl, ?_⟩) ?_ ?_
        rotate_left
        · intro w'
          go_simp
          with_reducible rfl
        rotate_left
        · simp only [Act.put, List.setIfInBounds_toArray, List.set_cons_zero, List.set_cons_succ, i64_w, i32_w]
          rfl
        refine take_ (i := 1) (N := some 71) (v := ?_) (a' := ?_) #[true, true, true, false, false, true, false, true, false, false, false, false, false] rfl rfl (by kernel_rfl) (fun _ _ _ h => h) (Or.inl ⟨by rfl, ?_⟩) hHeld ?_ ?_
        rotate_left
        · rintro w' ⟨s0, s1, s2⟩
          go_simp
          with_reducible rfl
        rotate_left
        · simp only [Act.put, List.setIfInBounds_toArray, List.set_cons_zero, List.set_cons_succ, i64_w, i32_w]
          rfl
        refine take_ (i := 3) (N := some 73) (v := ?_) (a' := ?_) #[true, true, true, true, false, true, false, true, false, false, false, false, false] rfl rfl (by kernel_rfl) (fun _ _ _ h => h) (Or.inl ⟨by rfl, ?_⟩) hHeld ?_ ?_
        rotate_left
        · rintro w' ⟨s0, s1, s2⟩
          go_simp
          with_reducible rfl
        rotate_left
        · simp only [Act.put, List.setIfInBounds_toArray, List.set_cons_zero, List.set_cons_succ, i64_w, i32_w]
          rfl
        refine take_ (i := 6) (N := some 76) (v := ?_) (a' := ?_) #[true, true, true, true, false, true, true, true, false, false, false, false, false] rfl rfl (by kernel_rfl) (fun _ _ _ h => h) (Or.inl ⟨by rfl, ?_⟩) hHeld ?_ ?_
        rotate_left
        · rintro w' ⟨s0, s1, s2⟩
          go_simp
          with_reducible rfl
        rotate_left
        · simp only [Act.put, List.setIfInBounds_toArray, List.set_cons_zero, List.set_cons_succ, i64_w, i32_w]
          rfl
        refine take_ (i := 8) (N := some 78) (v := ?_) (a' := ?_) #[true, true, true, true, false, true, true, true, true, false, false, false, false] rfl rfl (by kernel_rfl) (fun _ _ _ h => h) (Or.inl ⟨by rfl, ?_⟩) hHeld ?_ ?_
        rotate_left
        · rintro w' ⟨s0, s1, s2⟩
          go_simp
          with_reducible rfl
        rotate_left
        · simp only [Act.put, List.setIfInBounds_toArray, List.set_cons_zero, List.set_cons_succ, i64_w, i32_w]
          rfl
        refine one_ (i := 4) (N := some 74) #[true, true, true, true, true, true, true, true, true, false, false, false, false] rfl rfl (by kernel_rfl) (by decide) (fun K hK => ?_)
        refine goes_ Try.func102 (by kernel_rfl) rfl #[.slice A0 x.f0.length c0, .int .i64 id] (by rfl) rfl rfl (by (try simp only [List.map_toArray, List.map_cons, List.map_nil]); first | done | rfl) ?_
        refine (put_calls A0 c0 x.f0 id w3.drew (HCF.out.below HD3.out).g0 (HCF.out.below HD3.out).l0 (by omega)).mono ?_
        rintro e w6 ⟨v6, rfl, hr6, hb6⟩
        obtain ⟨A6, c6, rfl⟩ := Kd.R_slice hr6
        have HR6 := Aside0.mk hr6
        have HB66 := Aside0.mk (HD3.out.trans (hb6.mono HD3.out.size))
        clear hr6 hb6
        refine ⟨_, rfl, ?_⟩
        refine hK.out _ _ (HSS.out _ HB66.out) (fun hHeld => ?_)
        clear hK K
        refine norm_ (a' := ?_) ?_ ?_
        rotate_left
        · show Act.put _ (some 74) _ = _
          simp only [Act.put, List.setIfInBounds_toArray, List.set_cons_zero, List.set_cons_succ, i64_w, i32_w]
          rfl
        refine one_ (i := 9) (N := some 79) #[true, true, true, true, true, true, true, true, true, true, false, false, false] rfl rfl (by kernel_rfl) (by decide) (fun K hK => ?_)
        refine goes_ Try.func101 (by kernel_rfl) rfl #[.slice A1 x.f1.length c1, .int .i64 id] (by rfl) rfl rfl (by (try simp only [List.map_toArray, List.map_cons, List.map_nil]); first | done | rfl) ?_
        refine (drop_calls A1 c1 x.f1 id w6 (HCF.out.below HB66.out).g1 (HCF.out.below HB66.out).l1 (by omega)).mono ?_
        rintro e w7 ⟨v7, rfl, hr7, hb7⟩
        obtain ⟨A7, c7, rfl⟩ := Kd.R_slice hr7
        have HR67 := Aside0.mk (Kd.R_below HR6.out hb7)
        have HR7 := Aside0.mk hr7
        have HB77 := Aside0.mk (HB66.out.trans (hb7.mono HB66.out.size))
        have HLT : Aside0 (b2 < w6.heap.size ∧ b2 < w3.drew.heap.size) := ⟨⟨Nat.lt_of_lt_of_le (blk_lt K2.out) HB66.out.size, blk_lt K2.out⟩⟩
        have K27 := Aside0.mk (blk_below K2.out HB77.out)
        have r07 := (blk_cell K27.out 0).trans (show _ = some (Value.slice none 0 0) from rfl)
        have r17 := (blk_cell K27.out 1).trans (show _ = some (Value.slice none 0 0) from rfl)
        have q07 := blk_frozen K27.out 0
        have q17 := blk_frozen K27.out 1
        clear hr7 hb7 HR6
        refine ⟨_, rfl, ?_⟩
        refine hK.out _ _ (HSS.out _ HB77.out) (fun hHeld => ?_)
        clear hK K
        refine norm_ (a' := ?_) ?_ ?_
        rotate_left
        · show Act.put _ (some 79) _ = _
          simp only [Act.put, List.setIfInBounds_toArray, List.set_cons_zero, List.set_cons_succ, i64_w, i32_w]
          rfl
        refine pure_ (i := 10) (N := some 80) (v := ?_) (a' := ?_) #[true, true, true, true, true, true, true, true, true, true, true, false, false] rfl rfl (by kernel_rfl) (fun _ _ _ h => h) (Or.inl ⟨by rfl, ?_⟩) ?_ ?_
        rotate_left
        · intro w'
          go_simp
          with_reducible rfl
        rotate_left
        · simp only [Act.put, List.setIfInBounds_toArray, List.set_cons_zero, List.set_cons_succ, i64_w, i32_w]
          rfl
        refine last_ (i := 11) (N := none) #[true, true, true, true, true, true, true, true, true, true, true, true, false] rfl rfl (by kernel_rfl) (by decide) (fun K hK => ?_)
        refine skip_ (w1 := ?_) (by rfl) rfl ?_ ?_
        rotate_left
        · go_simp
          rfl
        refine hK.out _ _ ?_
        clear hK K
        refine pure_ (i := 12) (N := some 5) (v := ?_) (a' := ?_) #[true, true, true, true, true, true, true, true, true, true, true, true, true] rfl rfl (by kernel_rfl) (fun _ _ _ h => h) (Or.inl ⟨by rfl, ?_⟩) ?_ ?_
        rotate_left
        · intro w'
          go_simp
          with_reducible rfl
        rotate_left
        · simp only [Act.put, List.setIfInBounds_toArray, List.set_cons_zero, List.set_cons_succ, i64_w, i32_w]
          rfl
        refine done_ (by kernel_rfl) ?_
        go_wp2_with fail
        refine bodyPost_ret (results_ct rfl _ _ b2 67 #[.slice A6 (putF id x.f0).length c6, .slice A7 (dropF x.f1 id).length c7] (0, 0) _ rfl (blk_put (cs := #[.slice A6 (putF id x.f0).length c6, .slice none 0 0]) (blk_put (cs := #[.slice none 0 0, .slice none 0 0]) K27.out 0 _ rfl) 1 _ rfl) Try.underlying67 rfl (by kernel_rfl)) rfl ?_
        rw [HC.out, HE.out]
        have hB := ((HBW.out.trans (HB77.out.mono HBW.out.size)).setCell (p := ⟨b2, 0, none⟩) HG.out.2.2 (.slice A6 (putF id x.f0).length c6)).setCell (p := ⟨b2, 1, none⟩) HG.out.2.2 (.slice A7 (dropF x.f1 id).length c7)
        have hR6 := Kd.R_far (Kd.R_far HR67.out (p := ⟨b2, 0, none⟩) (fun k hk => by have := HLT.out.2; show k ≠ b2; omega) (.slice A6 (putF id x.f0).length c6)) (p := ⟨b2, 1, none⟩) (fun k hk => by have := HLT.out.2; show k ≠ b2; omega) (.slice A7 (dropF x.f1 id).length c7)
        have hR7 := Kd.R_far (Kd.R_far HR7.out (p := ⟨b2, 0, none⟩) (fun k hk => by have := HLT.out.1; show k ≠ b2; omega) (.slice A6 (putF id x.f0).length c6)) (p := ⟨b2, 1, none⟩) (fun k hk => by have := HLT.out.1; show k ≠ b2; omega) (.slice A7 (dropF x.f1 id).length c7)
        exact ⟨_, rfl, ⟨A6, c6, A7, c7, rfl, (Kd.R_reads' hR6).2.2, (Kd.R_reads' hR6).2.1, (Kd.R_reads' hR7).2.2, (Kd.R_reads' hR7).2.1⟩, hB⟩
    · by_cases hno : vb = false ∧ lb = false
      · obtain ⟨rfl, rfl⟩ := hno
        have HE : Aside0 (nextE x 3 id = 80) := ⟨by
          unfold nextE
          rw [if_neg HNB.out, if_pos]
          exact .inr (.inr ⟨rfl, of_decide_eq_false HVB.out, of_decide_eq_false HLB.out⟩)⟩
        have HC : Aside0 (nextC x 3 id = z67) := ⟨by unfold nextC; rw [HE.out, if_pos (by decide)]⟩
        go_wp2_with fail
        refine bodyPost_ret (results_ct rfl _ _ b2 67 #[.slice none 0 0, .slice none 0 0] (0, 0) _ rfl (blk_put (cs := #[.slice none 0 0, .slice none 0 0]) (blk_put (cs := #[.slice none 0 0, .slice none 0 0]) K2.out 0 _ rfl) 1 _ rfl) Try.underlying67 rfl (by kernel_rfl)) rfl ?_
        rw [HC.out, HE.out]
        exact ⟨_, rfl, cfv_nil _, (HBW.out.setCell (p := ⟨b2, 0, none⟩) HG.out.2.2 _).setCell (p := ⟨b2, 1, none⟩) HG.out.2.2 _⟩
      · have hin : id ∈ x.f0 ∨ id ∈ x.f1 := by
          cases hv : vb with
          | true => rw [hv] at HVB; exact .inl (of_decide_eq_true HVB.out)
          | false =>
            cases hl : lb with
            | true => rw [hl] at HLB; exact .inr (of_decide_eq_true HLB.out)
            | false => exact absurd ⟨hv, hl⟩ hno
        by_cases h81 : vb = true ∧ x.f0.length = 1
        · obtain ⟨rfl, h1⟩ := h81
          have t5 : ((x.f0.length : Int) == 1) = true := by rw [h1]; rfl
          have hm := of_decide_eq_true HVB.out
          have HE : Aside0 (nextE x 3 id = 81) := ⟨by
            unfold nextE
            rw [if_neg HNB.out, if_neg, if_pos ⟨rfl, fun hh => HT.out.ap id hh hm, h1⟩]
            rintro (⟨h, _⟩ | ⟨h, _⟩ | ⟨_, h, _⟩)
            · exact absurd h (by decide)
            · exact absurd h (by decide)
            · exact h hm⟩
          have HC : Aside0 (nextC x 3 id = z67) := ⟨by unfold nextC; rw [HE.out, if_pos (by decide)]⟩
          clear hin hno h1 hm
          go_wp2_with fail
          refine bodyPost_ret (results_ct rfl _ _ b2 67 #[.slice none 0 0, .slice none 0 0] (0, 0) _ rfl (blk_put (cs := #[.slice none 0 0, .slice none 0 0]) (blk_put (cs := #[.slice none 0 0, .slice none 0 0]) K2.out 0 _ rfl) 1 _ rfl) Try.underlying67 rfl (by kernel_rfl)) rfl ?_
          rw [HC.out, HE.out]
          exact ⟨_, rfl, cfv_nil _, (HBW.out.setCell (p := ⟨b2, 0, none⟩) HG.out.2.2 _).setCell (p := ⟨b2, 1, none⟩) HG.out.2.2 _⟩
        · have HE : Aside0 (nextE x 3 id = 0) := ⟨by
            unfold nextE
            rw [if_neg HNB.out, if_neg, if_neg]
            · rintro ⟨_, h, h'⟩
              refine h81 ⟨?_, h'⟩
              rw [← HVB.out]
              exact decide_eq_true (hin.resolve_right h)
            · rintro (⟨h, _⟩ | ⟨h, _⟩ | ⟨_, h, h'⟩)
              · exact absurd h (by decide)
              · exact absurd h (by decide)
              · rcases hin with h2 | h2
                · exact h h2
                · exact h' h2⟩
          have HC : Aside0 (nextC x 3 id = ⟨dropF x.f0 id, dropF x.f1 id⟩) := ⟨by unfold nextC; rw [HE.out, if_neg (by decide), if_neg (by decide), if_neg (by decide)]⟩
          have t5 : vb = false ∨ ((x.f0.length : Int) == 1) = false := by
            cases vb with
            | false => exact .inl rfl
            | true => exact .inr (beq_eq_false_iff_ne.2 (fun h => h81 ⟨rfl, by omega⟩))
          clear hin h81
          go_upto_region 13 with fail
          go_cut [86] (fun v86 wx => v86 = .bool false ∧ Aside0 (wx = w3))
          case first =>
            cases vb with
            | true =>
              clear hno t5
              go_wp2_with fail
              go_meet
              case rel => exact ⟨rfl, ⟨rfl⟩⟩
            | false =>
              have hl : lb = true := by simpa using hno
              subst hl
              clear hno t5
              go_wp2_with fail
              go_meet
              case rel => exact ⟨rfl, ⟨rfl⟩⟩
          case rest =>
            clear hno
            obtain ⟨rfl, HWC⟩ := hcut
            have hww := HWC.out.symm
            subst hww
            clear HWC
            go_upto_region 15 with fail
            go_cut [94] (fun v94 wx => v94 = .bool false ∧ Aside0 (wx = w3))
            case first =>
              cases vb with
              | false =>
                clear t5
                go_wp2_with fail
                go_meet
                case rel => exact ⟨rfl, ⟨rfl⟩⟩
              | true =>
                have t6 : ((x.f0.length : Int) == 1) = false := t5.resolve_left (by decide)
                clear t5
                go_wp2_with fail
                go_meet
                case rel => exact ⟨rfl, ⟨rfl⟩⟩
            case rest =>
              clear t5
              obtain ⟨rfl, HWC⟩ := hcut
              have hww := HWC.out.symm
              subst hww
              clear HWC
              have HD3 : Aside0 (Below w3.heap.size w3 w3.drew) := ⟨(Below.refl _ _).drew⟩
              have HSS : Aside0 (∀ W, Below w3.heap.size w3 W → W.cell? ⟨b0, 0, none⟩ = some (.slice A0 x.f0.length c0) ∧ W.cell? ⟨b0, 1, none⟩ = some (.slice A1 x.f1.length c1) ∧ W.cell? ⟨b1, 1, none⟩ = some (.int .i64 id)) := ⟨fun W hW => ⟨(blk_cell (blk_below K0.out hW) 0).trans rfl, (blk_cell (blk_below K0.out hW) 1).trans rfl, (blk_cell (blk_below K1.out hW) 1).trans rfl⟩⟩
              go_upto_region 17 with fail
              clear d0 r0 r1 q0 q1 a0 a1 d1
              refine start_ (n := 13) (S := fun w' => w'.cell? ⟨b0, 0, none⟩ = some (.slice A0 x.f0.length c0) ∧ w'.cell? ⟨b0, 1, none⟩ = some (.slice A1 x.f1.length c1) ∧ w'.cell? ⟨b1, 1, none⟩ = some (.int .i64 id)) (ds := [11]) #[false, false, false, false, false, false, false, false, false, false, false, false, false] (by kernel_rfl) rfl rfl (HSS.out _ HD3.out) (fun hHeld => ?_)
              refine pure_ (i := 0) (N := some 96) (v := ?_) (a' := ?_) #[true, false, false, false, false, false, false, false, false, false, false, false, false] rfl rfl (by kernel_rfl) (fun _ _ _ h => h) (Or.inl ⟨by rfl, ?_⟩) ?_ ?_
              rotate_left
              · intro w'
                go_simp
                with_reducible rfl
              rotate_left
              · simp only [Act.put, List.setIfInBounds_toArray, List.set_cons_zero, List.set_cons_succ, i64_w, i32_w]
                rfl
              refine pure_ (i := 2) (N := some 98) (v := ?_) (a' := ?_) #[true, false, true, false, false, false, false, false, false, false, false, false, false] rfl rfl (by kernel_rfl) (fun _ _ _ h => h) (Or.inl ⟨by rfl, ?_⟩) ?_ ?_
              rotate_left
              · intro w'
                go_simp
                with_reducible rfl
              rotate_left
              · simp only [Act.put, List.setIfInBounds_toArray, List.set_cons_zero, List.set_cons_succ, i64_w, i32_w]
                rfl
              refine pure_ (i := 5) (N := some 101) (v := ?_) (a' := ?_) #[true, false, true, false, false, true, false, false, false, false, false, false, false] rfl rfl (by kernel_rfl) (fun _ _ _ h => h) (Or.inl ⟨by rfl, ?_⟩) ?_ ?_
              rotate_left
              · intro w'
                go_simp
                with_reducible rfl
              rotate_left
              · simp only [Act.put, List.setIfInBounds_toArray, List.set_cons_zero, List.set_cons_succ, i64_w, i32_w]
                rfl
              refine pure_ (i := 7) (N := some 103) (v := ?_) (a' := ?_) #[true, false, true, false, false, true, false, true, false, false, false, false, false] rfl rfl (by kernel_rfl) (fun _ _ _ h => h) (Or.inl ⟨by rfl, ?_⟩) ?_ ?_
              rotate_left
              · intro w'
                go_simp
                with_reducible rfl
              rotate_left
              · simp only [Act.put, List.setIfInBounds_toArray, List.set_cons_zero, List.set_cons_succ, i64_w, i32_w]
                rfl
              refine take_ (i := 1) (N := some 97) (v := ?_) (a' := ?_) #[true, true, true, false, false, true, false, true, false, false, false, false, false] rfl rfl (by kernel_rfl) (fun _ _ _ h => h) (Or.inl ⟨by rfl, ?_⟩) hHeld ?_ ?_
              rotate_left
              · rintro w' ⟨s0, s1, s2⟩
                go_simp
                with_reducible rfl
              rotate_left
              · simp only [Act.put, List.setIfInBounds_toArray, List.set_cons_zero, List.set_cons_succ, i64_w, i32_w]
                rfl
              refine take_ (i := 3) (N := some 99) (v := ?_) (a' := ?_) #[true, true, true, true, false, true, false, true, false, false, false, false, false] rfl rfl (by kernel_rfl) (fun _ _ _ h => h) (Or.inl ⟨by rfl, ?_⟩) hHeld ?_ ?_
              rotate_left
              · rintro w' ⟨s0, s1, s2⟩
                go_simp
                with_reducible rfl
              rotate_left
              · simp only [Act.put, List.setIfInBounds_toArray, List.set_cons_zero, List.set_cons_succ, i64_w, i32_w]
                rfl
              refine take_ (i := 6) (N := some 102) (v := ?_) (a' := ?_) #[true, true, true, true, false, true, true, true, false, false, false, false, false] rfl rfl (by kernel_rfl) (fun _ _ _ h => h) (Or.inl ⟨by rfl, ?_⟩) hHeld ?_ ?_
              rotate_left
              · rintro w' ⟨s0, s1, s2⟩
                go_simp
                with_reducible rfl
              rotate_left
              · simp only [Act.put, List.setIfInBounds_toArray, List.set_cons_zero, List.set_cons_succ, i64_w, i32_w]
                rfl
              refine take_ (i := 8) (N := some 104) (v := ?_) (a' := ?_) #[true, true, true, true, false, true, true, true, true, false, false, false, false] rfl rfl (by kernel_rfl) (fun _ _ _ h => h) (Or.inl ⟨by rfl, ?_⟩) hHeld ?_ ?_
              rotate_left
              · rintro w' ⟨s0, s1, s2⟩
                go_simp
                with_reducible rfl
              rotate_left
              · simp only [Act.put, List.setIfInBounds_toArray, List.set_cons_zero, List.set_cons_succ, i64_w, i32_w]
                rfl
              refine one_ (i := 4) (N := some 100) #[true, true, true, true, true, true, true, true, true, false, false, false, false] rfl rfl (by kernel_rfl) (by decide) (fun K hK => ?_)
              refine goes_ Try.func101 (by kernel_rfl) rfl #[.slice A0 x.f0.length c0, .int .i64 id] (by rfl) rfl rfl (by (try simp only [List.map_toArray, List.map_cons, List.map_nil]); first | done | rfl) ?_
              refine (drop_calls A0 c0 x.f0 id w3.drew (HCF.out.below HD3.out).g0 (HCF.out.below HD3.out).l0 (by omega)).mono ?_
              rintro e w6 ⟨v6, rfl, hr6, hb6⟩
              obtain ⟨A6, c6, rfl⟩ := Kd.R_slice hr6
              have HR6 := Aside0.mk hr6
              have HB66 := Aside0.mk (HD3.out.trans (hb6.mono HD3.out.size))
              clear hr6 hb6
              refine ⟨_, rfl, ?_⟩
              refine hK.out _ _ (HSS.out _ HB66.out) (fun hHeld => ?_)
              clear hK K
              refine norm_ (a' := ?_) ?_ ?_
              rotate_left
              · show Act.put _ (some 100) _ = _
                simp only [Act.put, List.setIfInBounds_toArray, List.set_cons_zero, List.set_cons_succ, i64_w, i32_w]
                rfl
              refine one_ (i := 9) (N := some 105) #[true, true, true, true, true, true, true, true, true, true, false, false, false] rfl rfl (by kernel_rfl) (by decide) (fun K hK => ?_)
              refine goes_ Try.func101 (by kernel_rfl) rfl #[.slice A1 x.f1.length c1, .int .i64 id] (by rfl) rfl rfl (by (try simp only [List.map_toArray, List.map_cons, List.map_nil]); first | done | rfl) ?_
              refine (drop_calls A1 c1 x.f1 id w6 (HCF.out.below HB66.out).g1 (HCF.out.below HB66.out).l1 (by omega)).mono ?_
              rintro e w7 ⟨v7, rfl, hr7, hb7⟩
              obtain ⟨A7, c7, rfl⟩ := Kd.R_slice hr7
              have HR67 := Aside0.mk (Kd.R_below HR6.out hb7)
              have HR7 := Aside0.mk hr7
              have HB77 := Aside0.mk (HB66.out.trans (hb7.mono HB66.out.size))
              have HLT : Aside0 (b2 < w6.heap.size ∧ b2 < w3.drew.heap.size) := ⟨⟨Nat.lt_of_lt_of_le (blk_lt K2.out) HB66.out.size, blk_lt K2.out⟩⟩
              have K27 := Aside0.mk (blk_below K2.out HB77.out)
              have r07 := (blk_cell K27.out 0).trans (show _ = some (Value.slice none 0 0) from rfl)
              have r17 := (blk_cell K27.out 1).trans (show _ = some (Value.slice none 0 0) from rfl)
              have q07 := blk_frozen K27.out 0
              have q17 := blk_frozen K27.out 1
              clear hr7 hb7 HR6
              refine ⟨_, rfl, ?_⟩
              refine hK.out _ _ (HSS.out _ HB77.out) (fun hHeld => ?_)
              clear hK K
              refine norm_ (a' := ?_) ?_ ?_
              rotate_left
              · show Act.put _ (some 105) _ = _
                simp only [Act.put, List.setIfInBounds_toArray, List.set_cons_zero, List.set_cons_succ, i64_w, i32_w]
                rfl
              refine pure_ (i := 10) (N := some 106) (v := ?_) (a' := ?_) #[true, true, true, true, true, true, true, true, true, true, true, false, false] rfl rfl (by kernel_rfl) (fun _ _ _ h => h) (Or.inl ⟨by rfl, ?_⟩) ?_ ?_
              rotate_left
              · intro w'
                go_simp
                with_reducible rfl
              rotate_left
              · simp only [Act.put, List.setIfInBounds_toArray, List.set_cons_zero, List.set_cons_succ, i64_w, i32_w]
                rfl
              refine last_ (i := 11) (N := none) #[true, true, true, true, true, true, true, true, true, true, true, true, false] rfl rfl (by kernel_rfl) (by decide) (fun K hK => ?_)
              refine skip_ (w1 := ?_) (by rfl) rfl ?_ ?_
              rotate_left
              · go_simp
                rfl
              refine hK.out _ _ ?_
              clear hK K
              refine pure_ (i := 12) (N := some 5) (v := ?_) (a' := ?_) #[true, true, true, true, true, true, true, true, true, true, true, true, true] rfl rfl (by kernel_rfl) (fun _ _ _ h => h) (Or.inl ⟨by rfl, ?_⟩) ?_ ?_
              rotate_left
              · intro w'
                go_simp
                with_reducible rfl
              rotate_left
              · simp only [Act.put, List.setIfInBounds_toArray, List.set_cons_zero, List.set_cons_succ, i64_w, i32_w]
                rfl
              refine done_ (by kernel_rfl) ?_
              go_wp2_with fail
              refine bodyPost_ret (results_ct rfl _ _ b2 67 #[.slice A6 (dropF x.f0 id).length c6, .slice A7 (dropF x.f1 id).length c7] (0, 0) _ rfl (blk_put (cs := #[.slice A6 (dropF x.f0 id).length c6, .slice none 0 0]) (blk_put (cs := #[.slice none 0 0, .slice none 0 0]) K27.out 0 _ rfl) 1 _ rfl) Try.underlying67 rfl (by kernel_rfl)) rfl ?_
              rw [HC.out, HE.out]
              have hB := ((HBW.out.trans (HB77.out.mono HBW.out.size)).setCell (p := ⟨b2, 0, none⟩) HG.out.2.2 (.slice A6 (dropF x.f0 id).length c6)).setCell (p := ⟨b2, 1, none⟩) HG.out.2.2 (.slice A7 (dropF x.f1 id).length c7)
              have hR6 := Kd.R_far (Kd.R_far HR67.out (p := ⟨b2, 0, none⟩) (fun k hk => by have := HLT.out.2; show k ≠ b2; omega) (.slice A6 (dropF x.f0 id).length c6)) (p := ⟨b2, 1, none⟩) (fun k hk => by have := HLT.out.2; show k ≠ b2; omega) (.slice A7 (dropF x.f1 id).length c7)
              have hR7 := Kd.R_far (Kd.R_far HR7.out (p := ⟨b2, 0, none⟩) (fun k hk => by have := HLT.out.1; show k ≠ b2; omega) (.slice A6 (dropF x.f0 id).length c6)) (p := ⟨b2, 1, none⟩) (fun k hk => by have := HLT.out.1; show k ≠ b2; omega) (.slice A7 (dropF x.f1 id).length c7)
              exact ⟨_, rfl, ⟨A6, c6, A7, c7, rfl, (Kd.R_reads' hR6).2.2, (Kd.R_reads' hR6).2.1, (Kd.R_reads' hR7).2.2, (Kd.R_reads' hR7).2.1⟩, hB⟩
end Go.Proofs.Ytkeadpichlgagaa.Me
