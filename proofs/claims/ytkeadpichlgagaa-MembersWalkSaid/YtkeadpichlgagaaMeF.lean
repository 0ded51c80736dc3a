/- members: next, walked. -/
import Derived.Test.YtkeadpichlgagaaMeE
import Derived.Deep.RegionHeld3
namespace Go.Proofs.Ytkeadpichlgagaa.Me
open Go.RowKit Go.Lib Go.Sort Go.Shelf Go.Proofs.YtkeadpichlgagaaW.PrintWords Go.Proofs.YtkeadpichlgagaaW.PrintLast Go.Proofs.YtkeadpichlgagaaW.PrintMore
open Go.Proofs.Ytkeadpichlgagaa.PMembersNext Go.Proofs.Ytkeadpichlgagaa.Mp
set_option linter.unusedVariables false
set_option linter.unusedSimpArgs false
set_option linter.unnecessarySimpa false

/-- A configuration that can be read. -/
structure CfR (w : World) (x : S67) (A0 : Option Addr) (c0 : Nat) (A1 : Option Addr) (c1 : Nat) : Prop where
  g0 : (Kd.int .i64).C w A0 x.f0.length x.f0
  l0 : x.f0.length ≤ c0
  g1 : (Kd.int .i64).C w A1 x.f1.length x.f1
  l1 : x.f1.length ≤ c1
theorem CfR.below {w w' : World} {x : S67} {A0 A1 : Option Addr} {c0 c1 : Nat} (h : CfR w x A0 c0 A1 c1) (hb : Below w.heap.size w w') : CfR w' x A0 c0 A1 c1 := ⟨Kd.C_below h.g0 hb, h.l0, Kd.C_below h.g1 hb, h.l1⟩
def CfV (w : World) (v : Value) (x : S67) : Prop := ∃ A0 c0 A1 c1, v = .agg #[.slice A0 x.f0.length c0, .slice A1 x.f1.length c1] ∧ CfR w x A0 c0 A1 c1
theorem R3.cf {w : World} {B : Nat} {v : Value} {xs : List Int} (h : R3 w B v xs) : ∃ A c, v = .slice A xs.length c ∧ xs.length ≤ c ∧ (Kd.int .i64).C w A xs.length xs := by
  obtain ⟨A, c, rfl⟩ := Kd.R_slice h
  obtain ⟨_, h1, h2⟩ := Kd.R_reads' h
  exact ⟨A, c, rfl, h1, h2⟩
structure Rt (x : S67) : Prop where
  ap : ∀ y ∈ x.f1, y ∉ x.f0
  ne : x.f0 ≠ []
  len : x.f0.length + x.f1.length ≤ 9
  r0 : Ris x.f0
  r1 : Ris x.f1
theorem rtB_iff {x : S67} : rtB x = true ↔ Rt x := by
  unfold rtB
  simp only [Bool.and_eq_true, Bool.not_eq_true', decide_eq_true_iff, risB_iff, List.any_eq_false, beq_eq_false_iff_ne, ne_eq]
  constructor
  · rintro ⟨⟨⟨⟨h1, h2⟩, h3⟩, h4⟩, h5⟩
    exact ⟨fun y hy => by simpa using h1 y hy, fun e => h2 (by rw [e]; rfl), h3, h4, h5⟩
  · intro h
    exact ⟨⟨⟨⟨fun y hy => by simpa using h.ap y hy, fun e => h.ne (List.length_eq_zero_iff.1 e)⟩, h.len⟩, h.r0⟩, h.r1⟩
/-- What one change makes: the error, and the configuration. -/
def nextE (x : S67) (d id : Int) : Int :=
  if d < 1 ∨ 3 < d ∨ id < 0 ∨ 1048576 ≤ id then 2
  else if (d = 1 ∧ (id ∈ x.f0 ∨ id ∈ x.f1 ∨ 9 ≤ x.f0.length + x.f1.length)) ∨ (d = 2 ∧ id ∉ x.f1) ∨ (d = 3 ∧ id ∉ x.f0 ∧ id ∉ x.f1) then 80
  else if d = 3 ∧ id ∉ x.f1 ∧ x.f0.length = 1 then 81 else 0
def nextC (x : S67) (d id : Int) : S67 :=
  if nextE x d id ≠ 0 then z67
  else if d = 1 then ⟨x.f0, putF id x.f1⟩ else if d = 2 then ⟨putF id x.f0, dropF x.f1 id⟩ else ⟨dropF x.f0 id, dropF x.f1 id⟩
def NextQ (w : World) (y : S67) (er : Int) (e : Ending) (w' : World) : Prop := ∃ v, e = .returned (.tuple #[v, .int .i64 er]) ∧ CfV w' v y ∧ Below w.heap.size w w'
theorem cfv_nil (w : World) : CfV w (.agg #[.slice none 0 0, .slice none 0 0]) z67 := ⟨none, 0, none, 0, rfl, ⟨rfl, by decide, fun h => by simp [z67] at h⟩, Nat.le_refl _, ⟨rfl, by decide, fun h => by simp [z67] at h⟩, Nat.le_refl _⟩

set_option maxHeartbeats 4000000 in
set_option maxRecDepth 100000 in
theorem next_calls (A0 A1 : Option Addr) (c0 c1 : Nat) (x : S67) (d id : Int) (w : World) (hx : CfR w x A0 c0 A1 c1) (ht : Rt x) :
    Calls Try.prog 100 #[.agg #[.slice A0 x.f0.length c0, .slice A1 x.f1.length c1], .agg #[.int .i64 d, .int .i64 id]] w (NextQ w (nextC x d id) (nextE x d id)) := by
  have hu67 := Try.underlying67
  have hu84 := Try.underlying84
  have HX := Aside0.mk hx
  have HT := Aside0.mk ht
  have hlen := ht.len
  clear hx ht
  go_enter Try.func100, Try.ntmps100
  go_upto_region 1 with fail
  have HBW : Aside0 (Below w.heap.size w (((w.alloc (Obj.cells #[Value.slice A0 x.f0.length c0, Value.slice A1 x.f1.length c1] 67)).alloc (Obj.cells #[Value.int IntKind.i64 d, Value.int IntKind.i64 id] 84)).alloc (Obj.cells #[Value.slice none 0 0, Value.slice none 0 0] 67))) := ⟨(((Below.refl _ w).alloc (Nat.le_refl _) _).alloc (by simp) _).alloc (by simp; omega) _⟩
  have K0 := Aside0.mk (blk_alloc (blk_alloc (grown_new (w := w) #[Value.slice A0 x.f0.length c0, Value.slice A1 x.f1.length c1] 67) (Obj.cells #[Value.int IntKind.i64 d, Value.int IntKind.i64 id] 84)) (Obj.cells #[Value.slice none 0 0, Value.slice none 0 0] 67))
  have K1 := Aside0.mk (blk_alloc (grown_new (w := w.alloc (Obj.cells #[Value.slice A0 x.f0.length c0, Value.slice A1 x.f1.length c1] 67)) #[Value.int IntKind.i64 d, Value.int IntKind.i64 id] 84) (Obj.cells #[Value.slice none 0 0, Value.slice none 0 0] 67))
  have K2 := Aside0.mk (grown_new (w := (w.alloc (Obj.cells #[Value.slice A0 x.f0.length c0, Value.slice A1 x.f1.length c1] 67)).alloc (Obj.cells #[Value.int IntKind.i64 d, Value.int IntKind.i64 id] 84)) #[Value.slice none 0 0, Value.slice none 0 0] 67)
  simp only [World.size_alloc] at K1 K2
  generalize ((w.alloc (Obj.cells #[Value.slice A0 x.f0.length c0, Value.slice A1 x.f1.length c1] 67)).alloc (Obj.cells #[Value.int IntKind.i64 d, Value.int IntKind.i64 id] 84)).alloc (Obj.cells #[Value.slice none 0 0, Value.slice none 0 0] 67) = w1 at HBW K0 K1 K2 ⊢
  obtain ⟨b0, hb0⟩ : ∃ b, w.heap.size = b := ⟨_, rfl⟩
  obtain ⟨b1, hb1⟩ : ∃ b, w.heap.size + 1 = b := ⟨_, rfl⟩
  obtain ⟨b2, hb2⟩ : ∃ b, w.heap.size + 1 + 1 = b := ⟨_, rfl⟩
  have HG : Aside0 (w.heap.size ≤ b0 ∧ w.heap.size ≤ b1 ∧ w.heap.size ≤ b2) := ⟨by omega, by omega, by omega⟩
  have hn1 : b0 ≠ b1 := by omega
  have hn2 : b0 ≠ b2 := by omega
  have hn3 : b1 ≠ b2 := by omega
  have HN := Aside0.mk (And.intro hn1 (And.intro hn2 hn3))
  rw [hb2] at K2 ⊢
  rw [hb1] at K1 ⊢
  rw [hb0] at K0 ⊢
  clear hb0 hb1 hb2 hn1 hn2 hn3
  have HCF := Aside0.mk (HX.out.below HBW.out)
  obtain ⟨kh, hkh⟩ := (has_ev x.f0 x.f1 id (by omega) (by omega)).rounds
  obtain ⟨kc, hkc⟩ := (contains_ev x.f1 id (by omega)).rounds
  have HHA : Aside0 (∀ W, Below w1.heap.size w1 W → Calls Try.prog 58 #[.agg #[.slice A0 x.f0.length c0, .slice A1 x.f1.length c1], .int .i64 id] W fun e w' => e = .returned (.bool (decide (id ∈ x.f0 ∨ id ∈ x.f1))) ∧ Below w1.heap.size w1 w') := ⟨fun W hW => by
    have h := HCF.out.below hW
    exact (members_Has.calls kh A0 c0 x.f0 A1 c1 x.f1 id _ W h.g0 h.l0 h.g1 h.l1 hkh).mono fun e w' ⟨he, hb⟩ => ⟨he, hW.trans (hb.mono hW.size)⟩⟩
  have HHC : Aside0 (∀ W, Below w1.heap.size w1 W → Calls Try.prog 85 #[.slice A1 x.f1.length c1, .int .i64 id] W fun e w' => e = .returned (.bool (decide (id ∈ x.f1))) ∧ Below w1.heap.size w1 w') := ⟨fun W hW => by
    have h := HCF.out.below hW
    refine (slices_Contains_int_int.calls kc A1 c1 x.f1 id _ W h.g1 h.l1 hkc).mono fun e w' ⟨he, hd⟩ => ⟨he, hW.trans ?_⟩
    obtain ⟨n, rfl⟩ := hd.out
    exact (pw_below_drewN (Below.refl _ _) n).mono hW.size⟩
  have HKP : Aside0 (∀ W, Below w1.heap.size w1 W → W.cell? ⟨b0, 0, none⟩ = some (.slice A0 x.f0.length c0) ∧ W.cell? ⟨b0, 1, none⟩ = some (.slice A1 x.f1.length c1) ∧ W.cell? ⟨b1, 1, none⟩ = some (.int .i64 id)) := ⟨fun W hW => ⟨(blk_cell (blk_below K0.out hW) 0).trans rfl, (blk_cell (blk_below K0.out hW) 1).trans rfl, (blk_cell (blk_below K1.out hW) 1).trans rfl⟩⟩
  clear hkh hkc
  have HD1 : Aside0 (Below w1.heap.size w1 w1.drew) := ⟨(Below.refl _ _).drew⟩
  generalize hhb : decide (id ∈ x.f0 ∨ id ∈ x.f1) = hb at HHA
  have HHB := Aside0.mk hhb
  generalize hlb : decide (id ∈ x.f1) = lb at HHC
  have HLB := Aside0.mk hlb
  clear hhb hlb
  go_region_held3 (fun w' => w'.cell? ⟨b0, 0, none⟩ = some (.slice A0 x.f0.length c0) ∧ w'.cell? ⟨b0, 1, none⟩ = some (.slice A1 x.f1.length c1) ∧ w'.cell? ⟨b1, 1, none⟩ = some (.int .i64 id)) (first | exact HKP.out _ HB5.out | exact HKP.out _ HB4.out | exact HKP.out _ HD1.out)
    (first | (go_at_call 58; refine (HHA.out _ HD1.out).mono ?_; rintro e w4 ⟨rfl, hb4⟩; have HB4 := Aside0.mk hb4; clear hb4) | (go_at_call 85; refine (HHC.out _ HB4.out).mono ?_; rintro e w5 ⟨rfl, hb5⟩; have HB5 := Aside0.mk hb5; clear hb5))
  have HB6 := Aside0.mk (HBW.out.trans (HB5.out.mono HBW.out.size))
  have K05 := Aside0.mk (blk_below K0.out HB5.out)
  have K15 := Aside0.mk (blk_below K1.out HB5.out)
  have K25 := Aside0.mk (blk_below K2.out HB5.out)
  have HCF5 := Aside0.mk (HCF.out.below HB5.out)
  clear K0 K1 K2 HCF HHA HHC HKP HD1 HB4 HB5 HBW
  rename_i hheld
  clear hheld
  have a0 := (blk_cell K05.out 0).trans (show _ = some (Value.slice A0 x.f0.length c0) from rfl)
  have a1 := (blk_cell K05.out 1).trans (show _ = some (Value.slice A1 x.f1.length c1) from rfl)
  have d0 := (blk_cell K15.out 0).trans (show _ = some (Value.int .i64 d) from rfl)
  have d1 := (blk_cell K15.out 1).trans (show _ = some (Value.int .i64 id) from rfl)
  have r0 := (blk_cell K25.out 0).trans (show _ = some (Value.slice none 0 0) from rfl)
  have r1 := (blk_cell K25.out 1).trans (show _ = some (Value.slice none 0 0) from rfl)
  have q0 := blk_frozen K25.out 0
  have q1 := blk_frozen K25.out 1
  by_cases hbad : d < 1 ∨ 3 < d ∨ id < 0 ∨ 1048576 ≤ id
  · have HE : Aside0 (nextE x d id = 2) := ⟨by unfold nextE; rw [if_pos hbad]⟩
    have HC : Aside0 (nextC x d id = z67) := ⟨by unfold nextC; rw [HE.out, if_pos (by decide)]⟩
    by_cases h1 : d < 1
    · have t1 : decide (d < 1) = true := decide_eq_true h1
      clear hbad h1
      go_wp2_with fail
      refine bodyPost_ret (results_ct rfl _ _ b2 67 #[.slice none 0 0, .slice none 0 0] (0, 0) _ rfl (blk_put (cs := #[.slice none 0 0, .slice none 0 0]) (blk_put (cs := #[.slice none 0 0, .slice none 0 0]) K25.out 0 _ rfl) 1 _ rfl) Try.underlying67 rfl (by kernel_rfl)) rfl ?_
      rw [HC.out, HE.out]
      exact ⟨_, rfl, cfv_nil _, (HB6.out.setCell (p := ⟨b2, 0, none⟩) HG.out.2.2 _).setCell (p := ⟨b2, 1, none⟩) HG.out.2.2 _⟩
    · have t1 : decide (d < 1) = false := decide_eq_false h1
      by_cases h2 : 3 < d
      · have t2 : decide (3 < d) = true := decide_eq_true h2
        clear hbad h1 h2
        go_wp2_with fail
        refine bodyPost_ret (results_ct rfl _ _ b2 67 #[.slice none 0 0, .slice none 0 0] (0, 0) _ rfl (blk_put (cs := #[.slice none 0 0, .slice none 0 0]) (blk_put (cs := #[.slice none 0 0, .slice none 0 0]) K25.out 0 _ rfl) 1 _ rfl) Try.underlying67 rfl (by kernel_rfl)) rfl ?_
        rw [HC.out, HE.out]
        exact ⟨_, rfl, cfv_nil _, (HB6.out.setCell (p := ⟨b2, 0, none⟩) HG.out.2.2 _).setCell (p := ⟨b2, 1, none⟩) HG.out.2.2 _⟩
      · have t2 : decide (3 < d) = false := decide_eq_false h2
        by_cases h3 : id < 0
        · have t3 : decide (id < 0) = true := decide_eq_true h3
          clear hbad h1 h2 h3
          go_wp2_with fail
          refine bodyPost_ret (results_ct rfl _ _ b2 67 #[.slice none 0 0, .slice none 0 0] (0, 0) _ rfl (blk_put (cs := #[.slice none 0 0, .slice none 0 0]) (blk_put (cs := #[.slice none 0 0, .slice none 0 0]) K25.out 0 _ rfl) 1 _ rfl) Try.underlying67 rfl (by kernel_rfl)) rfl ?_
          rw [HC.out, HE.out]
          exact ⟨_, rfl, cfv_nil _, (HB6.out.setCell (p := ⟨b2, 0, none⟩) HG.out.2.2 _).setCell (p := ⟨b2, 1, none⟩) HG.out.2.2 _⟩
        · have t3 : decide (id < 0) = false := decide_eq_false h3
          have t4 : decide (1048576 ≤ id) = true := decide_eq_true (by omega)
          clear hbad h1 h2 h3
          go_wp2_with fail
          refine bodyPost_ret (results_ct rfl _ _ b2 67 #[.slice none 0 0, .slice none 0 0] (0, 0) _ rfl (blk_put (cs := #[.slice none 0 0, .slice none 0 0]) (blk_put (cs := #[.slice none 0 0, .slice none 0 0]) K25.out 0 _ rfl) 1 _ rfl) Try.underlying67 rfl (by kernel_rfl)) rfl ?_
          rw [HC.out, HE.out]
          exact ⟨_, rfl, cfv_nil _, (HB6.out.setCell (p := ⟨b2, 0, none⟩) HG.out.2.2 _).setCell (p := ⟨b2, 1, none⟩) HG.out.2.2 _⟩
  · have t3 : decide (id < 0) = false := decide_eq_false (by omega)
    have t4 : decide (1048576 ≤ id) = false := decide_eq_false (by omega)
    have HNB := Aside0.mk hbad
    obtain hd : d = 1 ∨ d = 2 ∨ d = 3 := by omega
    have hid : 0 ≤ id ∧ id < 1048576 := by omega
    clear hbad
    rcases hd with rfl | rfl | rfl
    · cases hb with
      | true =>
        have HE : Aside0 (nextE x 1 id = 80) := ⟨by
          unfold nextE
          rw [if_neg HNB.out, if_pos]
          have h := of_decide_eq_true HHB.out
          exact .inl ⟨rfl, by rcases h with h | h <;> simp [h]⟩⟩
        have HC : Aside0 (nextC x 1 id = z67) := ⟨by unfold nextC; rw [HE.out, if_pos (by decide)]⟩
        go_wp2_with fail
        refine bodyPost_ret (results_ct rfl _ _ b2 67 #[.slice none 0 0, .slice none 0 0] (0, 0) _ rfl (blk_put (cs := #[.slice none 0 0, .slice none 0 0]) (blk_put (cs := #[.slice none 0 0, .slice none 0 0]) K25.out 0 _ rfl) 1 _ rfl) Try.underlying67 rfl (by kernel_rfl)) rfl ?_
        rw [HC.out, HE.out]
        exact ⟨_, rfl, cfv_nil _, (HB6.out.setCell (p := ⟨b2, 0, none⟩) HG.out.2.2 _).setCell (p := ⟨b2, 1, none⟩) HG.out.2.2 _⟩
      | false =>
        go_wp2_with fail
        refine (all_calls A0 A1 c0 c1 x.f0 x.f1 w5 HCF5.out.g0 HCF5.out.g1 HCF5.out.l0 HCF5.out.l1 (by omega)).mono ?_
        rintro e w6 ⟨v6, rfl, hr, hbb⟩
        obtain ⟨A6, c6, ev6⟩ := Kd.R_slice hr
        have hal : (Wv.asc (x.f0 ++ x.f1)).length = x.f0.length + x.f1.length := by rw [Wv.asc_len, List.length_append]
        rw [hal] at ev6
        subst ev6
        have HB7 := Aside0.mk (HB6.out.trans (hbb.mono HB6.out.size))
        have K06 := Aside0.mk (blk_below K05.out hbb)
        have K16 := Aside0.mk (blk_below K15.out hbb)
        have K26 := Aside0.mk (blk_below K25.out hbb)
        have HCF6 := Aside0.mk (HCF5.out.below hbb)
        clear hr hbb hal a0 a1 d0 d1 r0 r1 q0 q1 K05 K15 K25 HCF5 HB6
        have a0 := (blk_cell K06.out 0).trans (show _ = some (Value.slice A0 x.f0.length c0) from rfl)
        have a1 := (blk_cell K06.out 1).trans (show _ = some (Value.slice A1 x.f1.length c1) from rfl)
        have p0 := blk_frozen K06.out 0
        have p1 := blk_frozen K06.out 1
        have d0 := (blk_cell K16.out 0).trans (show _ = some (Value.int .i64 _) from rfl)
        have d1 := (blk_cell K16.out 1).trans (show _ = some (Value.int .i64 id) from rfl)
        have r0 := (blk_cell K26.out 0).trans (show _ = some (Value.slice none 0 0) from rfl)
        have r1 := (blk_cell K26.out 1).trans (show _ = some (Value.slice none 0 0) from rfl)
        have q0 := blk_frozen K26.out 0
        have q1 := blk_frozen K26.out 1
        by_cases h9 : 9 ≤ x.f0.length + x.f1.length
        · have t9 : decide ((9 : Int) ≤ (x.f0.length : Int) + (x.f1.length : Int)) = true := decide_eq_true (by omega)
          have t9' : decide (9 ≤ x.f0.length + x.f1.length) = true := decide_eq_true h9
          have HE : Aside0 (nextE x 1 id = 80) := ⟨by
            unfold nextE
            rw [if_neg HNB.out, if_pos]
            exact .inl ⟨rfl, .inr (.inr h9)⟩⟩
          have HC : Aside0 (nextC x 1 id = z67) := ⟨by unfold nextC; rw [HE.out, if_pos (by decide)]⟩
          clear h9
          go_wp2_with fail
          refine bodyPost_ret (results_ct rfl _ _ b2 67 #[.slice none 0 0, .slice none 0 0] (0, 0) _ rfl (blk_put (cs := #[.slice none 0 0, .slice none 0 0]) (blk_put (cs := #[.slice none 0 0, .slice none 0 0]) K26.out 0 _ rfl) 1 _ rfl) Try.underlying67 rfl (by kernel_rfl)) rfl ?_
          rw [HC.out, HE.out]
          exact ⟨_, rfl, cfv_nil _, (HB7.out.setCell (p := ⟨b2, 0, none⟩) HG.out.2.2 _).setCell (p := ⟨b2, 1, none⟩) HG.out.2.2 _⟩
        · have t9 : decide ((9 : Int) ≤ (x.f0.length : Int) + (x.f1.length : Int)) = false := decide_eq_false (by omega)
          have t9' : decide (9 ≤ x.f0.length + x.f1.length) = false := decide_eq_false h9
          have hnin := of_decide_eq_false HHB.out
          have HE : Aside0 (nextE x 1 id = 0) := ⟨by
            unfold nextE
            rw [if_neg HNB.out, if_neg, if_neg (fun h => absurd h.1 (by decide))]
            rintro (⟨_, h | h | h⟩ | ⟨h, _⟩ | ⟨h, _⟩)
            · exact hnin (.inl h)
            · exact hnin (.inr h)
            · exact h9 h
            · exact absurd h (by decide)
            · exact absurd h (by decide)⟩
          have HC : Aside0 (nextC x 1 id = ⟨x.f0, putF id x.f1⟩) := ⟨by unfold nextC; rw [HE.out, if_neg (by decide), if_pos rfl]⟩
          have HNI : Aside0 (id ∉ x.f1) := ⟨fun h => hnin (.inr h)⟩
          clear h9 hnin
          go_wp2_with fail
          refine (with_calls A1 c1 x.f1 id w6 HCF6.out.g1 HCF6.out.l1 (by omega) HT.out.r1 HNI.out).mono ?_
          rintro e w7 ⟨v7, rfl, hr, hbb⟩
          obtain ⟨A7, c7, rfl⟩ := Kd.R_slice hr
          have HL7 : Aside0 (b0 < w6.heap.size ∧ b2 < w6.heap.size) := ⟨blk_lt K06.out, blk_lt K26.out⟩
          have HR7 := Aside0.mk hr
          have HB8 := Aside0.mk (HB7.out.trans (hbb.mono HB7.out.size))
          have K07 := Aside0.mk (blk_below K06.out hbb)
          have K17 := Aside0.mk (blk_below K16.out hbb)
          have K27 := Aside0.mk (blk_below K26.out hbb)
          clear hr hbb a0 a1 d0 d1 r0 r1 q0 q1 p0 p1 K06 K16 K26 HCF6 HB7
          have a0 := (blk_cell K07.out 0).trans (show _ = some (Value.slice A0 x.f0.length c0) from rfl)
          have a1 := (blk_cell K07.out 1).trans (show _ = some (Value.slice A1 x.f1.length c1) from rfl)
          have p0 := blk_frozen K07.out 0
          have p1 := blk_frozen K07.out 1
          have d0 := (blk_cell K17.out 0).trans (show _ = some (Value.int .i64 _) from rfl)
          have d1 := (blk_cell K17.out 1).trans (show _ = some (Value.int .i64 id) from rfl)
          have r0 := (blk_cell K27.out 0).trans (show _ = some (Value.slice none 0 0) from rfl)
          have r1 := (blk_cell K27.out 1).trans (show _ = some (Value.slice none 0 0) from rfl)
          have q0 := blk_frozen K27.out 0
          have q1 := blk_frozen K27.out 1
          go_upto_region 15 with fail
          have K08 := Aside0.mk (blk_put (cs := #[.slice A0 x.f0.length c0, .slice A1 x.f1.length c1]) K07.out 1 (.slice A7 (putF id x.f1).length c7) rfl)
          have K28 := Aside0.mk (blk_far K27.out (p := ⟨b0, 1, none⟩) HN.out.2.1.symm (.slice A7 (putF id x.f1).length c7))
          have HB9 := Aside0.mk (HB8.out.setCell (p := ⟨b0, 1, none⟩) HG.out.1 (.slice A7 (putF id x.f1).length c7))
          have HR8 := Aside0.mk (Kd.R_far HR7.out (p := ⟨b0, 1, none⟩) (fun k hk => by have := HL7.out.1; show k ≠ b0; omega) (.slice A7 (putF id x.f1).length c7))
          clear a0 a1 d0 d1 r0 r1 q0 q1 p0 p1 K07 K17 K27 HB8 HR7
          generalize w7.setCell ⟨b0, 1, none⟩ (.slice A7 (putF id x.f1).length c7) = w8 at K08 K28 HB9 HR8 ⊢
          have a0 := (blk_cell K08.out 0).trans (show _ = some (Value.slice A0 x.f0.length c0) from rfl)
          have a1 := (blk_cell K08.out 1).trans (show _ = some (Value.slice A7 (putF id x.f1).length c7) from rfl)
          have r0 := (blk_cell K28.out 0).trans (show _ = some (Value.slice none 0 0) from rfl)
          have r1 := (blk_cell K28.out 1).trans (show _ = some (Value.slice none 0 0) from rfl)
          have q0 := blk_frozen K28.out 0
          have q1 := blk_frozen K28.out 1
          go_wp2_with fail
          refine bodyPost_ret (results_ct rfl _ _ b2 67 #[.slice A0 x.f0.length c0, .slice A7 (putF id x.f1).length c7] (0, 0) _ rfl (blk_put (cs := #[.slice A0 x.f0.length c0, .slice none 0 0]) (blk_put (cs := #[.slice none 0 0, .slice none 0 0]) K28.out 0 _ rfl) 1 _ rfl) Try.underlying67 rfl (by kernel_rfl)) rfl ?_
          rw [HC.out, HE.out]
          have hB := (HB9.out.setCell (p := ⟨b2, 0, none⟩) HG.out.2.2 (.slice A0 x.f0.length c0)).setCell (p := ⟨b2, 1, none⟩) HG.out.2.2 (.slice A7 (putF id x.f1).length c7)
          have hR := Kd.R_far (Kd.R_far HR8.out (p := ⟨b2, 0, none⟩) (fun k hk => by have := HL7.out.2; show k ≠ b2; omega) (.slice A0 x.f0.length c0)) (p := ⟨b2, 1, none⟩) (fun k hk => by have := HL7.out.2; show k ≠ b2; omega) (.slice A7 (putF id x.f1).length c7)
          exact ⟨_, rfl, ⟨A0, c0, A7, c7, rfl, Kd.C_below HX.out.g0 hB, HX.out.l0, (Kd.R_reads' hR).2.2, (Kd.R_reads' hR).2.1⟩, hB⟩
    · cases lb with
      | false =>
        have HE : Aside0 (nextE x 2 id = 80) := ⟨by
          unfold nextE
          rw [if_neg HNB.out, if_pos]
          have h := of_decide_eq_false HLB.out
          exact .inr (.inl ⟨rfl, h⟩)⟩
        have HC : Aside0 (nextC x 2 id = z67) := ⟨by unfold nextC; rw [HE.out, if_pos (by decide)]⟩
        go_wp2_with fail
        refine bodyPost_ret (results_ct rfl _ _ b2 67 #[.slice none 0 0, .slice none 0 0] (0, 0) _ rfl (blk_put (cs := #[.slice none 0 0, .slice none 0 0]) (blk_put (cs := #[.slice none 0 0, .slice none 0 0]) K25.out 0 _ rfl) 1 _ rfl) Try.underlying67 rfl (by kernel_rfl)) rfl ?_
        rw [HC.out, HE.out]
        exact ⟨_, rfl, cfv_nil _, (HB6.out.setCell (p := ⟨b2, 0, none⟩) HG.out.2.2 _).setCell (p := ⟨b2, 1, none⟩) HG.out.2.2 _⟩
      | true =>
        have hin := of_decide_eq_true HLB.out
        have HNI : Aside0 (id ∉ x.f0) := ⟨HT.out.ap id hin⟩
        have HE : Aside0 (nextE x 2 id = 0) := ⟨by
          unfold nextE
          rw [if_neg HNB.out, if_neg, if_neg (fun h => absurd h.1 (by decide))]
          rintro (⟨h, _⟩ | ⟨_, h⟩ | ⟨h, _⟩)
          · exact absurd h (by decide)
          · exact h hin
          · exact absurd h (by decide)⟩
        have HC : Aside0 (nextC x 2 id = ⟨putF id x.f0, dropF x.f1 id⟩) := ⟨by unfold nextC; rw [HE.out, if_neg (by decide), if_neg (by decide), if_pos rfl]⟩
        clear hin
        have HW1 : Aside0 (∀ W, Below w5.heap.size w5 W → Calls Try.prog 126 #[.slice A1 x.f1.length c1, .int .i64 id] W fun e w' => ∃ v, e = .returned v ∧ R3 w' W.heap.size v (dropF x.f1 id) ∧ Below W.heap.size W w') := ⟨fun W hW => without_calls A1 c1 x.f1 id W (HCF5.out.below hW).g1 (by omega)⟩
        have HW2 : Aside0 (∀ W, Below w5.heap.size w5 W → Calls Try.prog 125 #[.slice A0 x.f0.length c0, .int .i64 id] W fun e w' => ∃ v, e = .returned v ∧ R3 w' W.heap.size v (putF id x.f0) ∧ Below W.heap.size W w') := ⟨fun W hW => with_calls A0 c0 x.f0 id W (HCF5.out.below hW).g0 (HCF5.out.below hW).l0 (by omega) HT.out.r0 HNI.out⟩
        have HD5 : Aside0 (Below w5.heap.size w5 w5.drew) := ⟨(Below.refl _ _).drew⟩
        have HSS : Aside0 (∀ W, Below w5.heap.size w5 W → W.cell? ⟨b0, 0, none⟩ = some (.slice A0 x.f0.length c0) ∧ W.cell? ⟨b0, 1, none⟩ = some (.slice A1 x.f1.length c1) ∧ W.cell? ⟨b1, 1, none⟩ = some (.int .i64 id)) := ⟨fun W hW => ⟨(blk_cell (blk_below K05.out hW) 0).trans rfl, (blk_cell (blk_below K05.out hW) 1).trans rfl, (blk_cell (blk_below K15.out hW) 1).trans rfl⟩⟩
        go_upto_region 14 with fail
        clear d0 r0 r1 q0 q1 a0 a1 d1
        refine start_ (n := 14) (S := fun w' => w'.cell? ⟨b0, 0, none⟩ = some (.slice A0 x.f0.length c0) ∧ w'.cell? ⟨b0, 1, none⟩ = some (.slice A1 x.f1.length c1) ∧ w'.cell? ⟨b1, 1, none⟩ = some (.int .i64 id)) (ds := [11, 13]) #[false, false, false, false, false, false, false, false, false, false, false, false, false, false] (by kernel_rfl) rfl rfl (HSS.out _ HD5.out) (fun hHeld => ?_)
        refine pure_ (i := 0) (N := some 106) (v := ?_) (a' := ?_) #[true, false, false, false, false, false, false, false, false, false, false, false, false, false] rfl rfl (by kernel_rfl) (fun _ _ _ h => h) (Or.inl ⟨by rfl, ?_⟩) ?_ ?_
        rotate_left
        · intro w'
          go_simp
          with_reducible rfl
        rotate_left
        · simp only [Act.put, List.setIfInBounds_toArray, List.set_cons_zero, List.set_cons_succ, i64_w, i32_w]
          rfl
        refine pure_ (i := 2) (N := some 108) (v := ?_) (a' := ?_) #[true, false, true, false, false, false, false, false, false, false, false, false, false, false] rfl rfl (by kernel_rfl) (fun _ _ _ h => h) (Or.inl ⟨by rfl, ?_⟩) ?_ ?_
        rotate_left
        · intro w'
          go_simp
          with_reducible rfl
        rotate_left
        · simp only [Act.put, List.setIfInBounds_toArray, List.set_cons_zero, List.set_cons_succ, i64_w, i32_w]
          rfl
        refine pure_ (i := 5) (N := some 111) (v := ?_) (a' := ?_) #[true, false, true, false, false, true, false, false, false, false, false, false, false, false] rfl rfl (by kernel_rfl) (fun _ _ _ h => h) (Or.inl ⟨by rfl, ?_⟩) ?_ ?_
        rotate_left
        · intro w'
          go_simp
          with_reducible rfl
        rotate_left
        · simp only [Act.put, List.setIfInBounds_toArray, List.set_cons_zero, List.set_cons_succ, i64_w, i32_w]
          rfl
        refine pure_ (i := 7) (N := some 113) (v := ?_) (a' := ?_) #[true, false, true, false, false, true, false, true, false, false, false, false, false, false] rfl rfl (by kernel_rfl) (fun _ _ _ h => h) (Or.inl ⟨by rfl, ?_⟩) ?_ ?_
        rotate_left
        · intro w'
          go_simp
          with_reducible rfl
        rotate_left
        · simp only [Act.put, List.setIfInBounds_toArray, List.set_cons_zero, List.set_cons_succ, i64_w, i32_w]
          rfl
        refine take_ (i := 1) (N := some 107) (v := ?_) (a' := ?_) #[true, true, true, false, false, true, false, true, false, false, false, false, false, false] rfl rfl (by kernel_rfl) (fun _ _ _ h => h) (Or.inl ⟨by rfl, ?_⟩) hHeld ?_ ?_
        rotate_left
        · rintro w' ⟨s0, s1, s2⟩
          go_simp
          with_reducible rfl
        rotate_left
        · simp only [Act.put, List.setIfInBounds_toArray, List.set_cons_zero, List.set_cons_succ, i64_w, i32_w]
          rfl
        refine take_ (i := 3) (N := some 109) (v := ?_) (a' := ?_) #[true, true, true, true, false, true, false, true, false, false, false, false, false, false] rfl rfl (by kernel_rfl) (fun _ _ _ h => h) (Or.inl ⟨by rfl, ?_⟩) hHeld ?_ ?_
        rotate_left
        · rintro w' ⟨s0, s1, s2⟩
          go_simp
          with_reducible rfl
        rotate_left
        · simp only [Act.put, List.setIfInBounds_toArray, List.set_cons_zero, List.set_cons_succ, i64_w, i32_w]
          rfl
        refine take_ (i := 6) (N := some 112) (v := ?_) (a' := ?_) #[true, true, true, true, false, true, true, true, false, false, false, false, false, false] rfl rfl (by kernel_rfl) (fun _ _ _ h => h) (Or.inl ⟨by rfl, ?_⟩) hHeld ?_ ?_
        rotate_left
        · rintro w' ⟨s0, s1, s2⟩
          go_simp
          with_reducible rfl
        rotate_left
        · simp only [Act.put, List.setIfInBounds_toArray, List.set_cons_zero, List.set_cons_succ, i64_w, i32_w]
          rfl
        refine take_ (i := 8) (N := some 114) (v := ?_) (a' := ?_) #[true, true, true, true, false, true, true, true, true, false, false, false, false, false] rfl rfl (by kernel_rfl) (fun _ _ _ h => h) (Or.inl ⟨by rfl, ?_⟩) hHeld ?_ ?_
        rotate_left
        · rintro w' ⟨s0, s1, s2⟩
          go_simp
          with_reducible rfl
        rotate_left
        · simp only [Act.put, List.setIfInBounds_toArray, List.set_cons_zero, List.set_cons_succ, i64_w, i32_w]
          rfl
        refine one_ (i := 4) (N := some 110) #[true, true, true, true, true, true, true, true, true, false, false, false, false, false] rfl rfl (by kernel_rfl) (by decide) (fun K hK => ?_)
        refine goes_ Try.func126 (by kernel_rfl) rfl #[.slice A1 x.f1.length c1, .int .i64 id] (by rfl) rfl rfl (by (try simp only [List.map_toArray, List.map_cons, List.map_nil]); first | done | rfl) ?_
        refine (HW1.out _ HD5.out).mono ?_
        rintro e w6 ⟨v6, rfl, hr6, hb6⟩
        obtain ⟨A6, c6, rfl⟩ := Kd.R_slice hr6
        have HR6 := Aside0.mk hr6
        have HB66 := Aside0.mk (HD5.out.trans (hb6.mono HD5.out.size))
        clear hr6 hb6
        refine ⟨_, rfl, ?_⟩
        refine hK.out _ _ (HSS.out _ HB66.out) (fun hHeld => ?_)
        clear hK K
        refine norm_ (a' := ?_) ?_ ?_
        rotate_left
        · show Act.put _ (some 110) _ = _
          simp only [Act.put, List.setIfInBounds_toArray, List.set_cons_zero, List.set_cons_succ, i64_w, i32_w]
          rfl
        refine pure_ (i := 10) (N := some 116) (v := ?_) (a' := ?_) #[true, true, true, true, true, true, true, true, true, false, true, false, false, false] rfl rfl (by kernel_rfl) (fun _ _ _ h => h) (Or.inl ⟨by rfl, ?_⟩) ?_ ?_
        rotate_left
        · intro w'
          go_simp
          with_reducible rfl
        rotate_left
        · simp only [Act.put, List.setIfInBounds_toArray, List.set_cons_zero, List.set_cons_succ, i64_w, i32_w]
          rfl
        refine one_ (i := 9) (N := some 115) #[true, true, true, true, true, true, true, true, true, true, true, false, false, false] rfl rfl (by kernel_rfl) (by decide) (fun K hK => ?_)
        refine goes_ Try.func125 (by kernel_rfl) rfl #[.slice A0 x.f0.length c0, .int .i64 id] (by rfl) rfl rfl (by (try simp only [List.map_toArray, List.map_cons, List.map_nil]); first | done | rfl) ?_
        refine (HW2.out _ HB66.out).mono ?_
        rintro e w7 ⟨v7, rfl, hr7, hb7⟩
        obtain ⟨A7, c7, rfl⟩ := Kd.R_slice hr7
        have HR67 := Aside0.mk (Kd.R_below HR6.out hb7)
        have HR7 := Aside0.mk hr7
        have HB77 := Aside0.mk (HB66.out.trans (hb7.mono HB66.out.size))
        have HLT : Aside0 (b0 < w6.heap.size ∧ b2 < w6.heap.size ∧ b0 < w5.drew.heap.size ∧ b2 < w5.drew.heap.size) := ⟨⟨Nat.lt_of_lt_of_le (blk_lt K05.out) HB66.out.size, Nat.lt_of_lt_of_le (blk_lt K25.out) HB66.out.size, blk_lt K05.out, blk_lt K25.out⟩⟩
        have K07 := Aside0.mk (blk_below K05.out HB77.out)
        have K27 := Aside0.mk (blk_below K25.out HB77.out)
        have a07 := (blk_cell K07.out 0).trans (show _ = some (Value.slice A0 x.f0.length c0) from rfl)
        have a17 := (blk_cell K07.out 1).trans (show _ = some (Value.slice A1 x.f1.length c1) from rfl)
        have p07 := blk_frozen K07.out 0
        have p17 := blk_frozen K07.out 1
        clear hr7 hb7 HR6
        refine ⟨_, rfl, ?_⟩
        refine hK.out _ _ (HSS.out _ HB77.out) (fun hHeld => ?_)
        clear hK K
        refine norm_ (a' := ?_) ?_ ?_
        rotate_left
        · show Act.put _ (some 115) _ = _
          simp only [Act.put, List.setIfInBounds_toArray, List.set_cons_zero, List.set_cons_succ, i64_w, i32_w]
          rfl
        refine last_ (i := 11) (N := none) #[true, true, true, true, true, true, true, true, true, true, true, true, false, false] rfl rfl (by kernel_rfl) (by decide) (fun K hK => ?_)
        refine skip_ (w1 := ?_) (by rfl) rfl ?_ ?_
        rotate_left
        · go_simp
          rfl
        refine hK.out _ _ ?_
        clear hK K
        refine pure_ (i := 12) (N := some 117) (v := ?_) (a' := ?_) #[true, true, true, true, true, true, true, true, true, true, true, true, true, false] rfl rfl (by kernel_rfl) (fun _ _ _ h => h) (Or.inl ⟨by rfl, ?_⟩) ?_ ?_
        rotate_left
        · intro w'
          go_simp
          with_reducible rfl
        rotate_left
        · simp only [Act.put, List.setIfInBounds_toArray, List.set_cons_zero, List.set_cons_succ, i64_w, i32_w]
          rfl
        refine last_ (i := 13) (N := none) #[true, true, true, true, true, true, true, true, true, true, true, true, true, true] rfl rfl (by kernel_rfl) (by decide) (fun K hK => ?_)
        refine skip_ (w1 := ?_) (by rfl) rfl ?_ ?_
        rotate_left
        · go_simp
          rfl
        refine hK.out _ _ ?_
        clear hK K
        refine done_ (by kernel_rfl) ?_

        have HB8 := Aside0.mk (((HB6.out.trans (HB77.out.mono HB6.out.size)).setCell (p := ⟨b0, 1, none⟩) HG.out.1 (.slice A6 (dropF x.f1 id).length c6)).setCell (p := ⟨b0, 0, none⟩) HG.out.1 (.slice A7 (putF id x.f0).length c7))
        have K08 := Aside0.mk (blk_put (cs := #[.slice A0 x.f0.length c0, .slice A6 (dropF x.f1 id).length c6]) (blk_put (cs := #[.slice A0 x.f0.length c0, .slice A1 x.f1.length c1]) K07.out 1 (.slice A6 (dropF x.f1 id).length c6) rfl) 0 (.slice A7 (putF id x.f0).length c7) rfl)
        have K28 := Aside0.mk (blk_far (blk_far K27.out (p := ⟨b0, 1, none⟩) HN.out.2.1.symm (.slice A6 (dropF x.f1 id).length c6)) (p := ⟨b0, 0, none⟩) HN.out.2.1.symm (.slice A7 (putF id x.f0).length c7))
        have HR68 := Aside0.mk (Kd.R_far (Kd.R_far HR67.out (p := ⟨b0, 1, none⟩) (fun k hk => by have := HLT.out.2.2.1; show k ≠ b0; omega) (.slice A6 (dropF x.f1 id).length c6)) (p := ⟨b0, 0, none⟩) (fun k hk => by have := HLT.out.2.2.1; show k ≠ b0; omega) (.slice A7 (putF id x.f0).length c7))
        have HR78 := Aside0.mk (Kd.R_far (Kd.R_far HR7.out (p := ⟨b0, 1, none⟩) (fun k hk => by have := HLT.out.1; show k ≠ b0; omega) (.slice A6 (dropF x.f1 id).length c6)) (p := ⟨b0, 0, none⟩) (fun k hk => by have := HLT.out.1; show k ≠ b0; omega) (.slice A7 (putF id x.f0).length c7))
        clear a07 a17 p07 p17 K07 K27 HR67 HR7 hHeld
        generalize (w7.setCell ⟨b0, 1, none⟩ (.slice A6 (dropF x.f1 id).length c6)).setCell ⟨b0, 0, none⟩ (.slice A7 (putF id x.f0).length c7) = w8 at HB8 K08 K28 HR68 HR78 ⊢
        have a0 := (blk_cell K08.out 0).trans (show _ = some (Value.slice A7 _ c7) from rfl)
        have a1 := (blk_cell K08.out 1).trans (show _ = some (Value.slice A6 _ c6) from rfl)
        have r0 := (blk_cell K28.out 0).trans (show _ = some (Value.slice none 0 0) from rfl)
        have r1 := (blk_cell K28.out 1).trans (show _ = some (Value.slice none 0 0) from rfl)
        have q0 := blk_frozen K28.out 0
        have q1 := blk_frozen K28.out 1
        go_wp2_with fail
        refine bodyPost_ret (results_ct rfl _ _ b2 67 #[.slice A7 (putF id x.f0).length c7, .slice A6 (dropF x.f1 id).length c6] (0, 0) _ rfl (blk_put (cs := #[.slice A7 (putF id x.f0).length c7, .slice none 0 0]) (blk_put (cs := #[.slice none 0 0, .slice none 0 0]) K28.out 0 _ rfl) 1 _ rfl) Try.underlying67 rfl (by kernel_rfl)) rfl ?_
        rw [HC.out, HE.out]
        have hB := (HB8.out.setCell (p := ⟨b2, 0, none⟩) HG.out.2.2 (.slice A7 (putF id x.f0).length c7)).setCell (p := ⟨b2, 1, none⟩) HG.out.2.2 (.slice A6 (dropF x.f1 id).length c6)
        have hR6 := Kd.R_far (Kd.R_far HR68.out (p := ⟨b2, 0, none⟩) (fun k hk => by have := HLT.out.2.2.2; show k ≠ b2; omega) (.slice A7 (putF id x.f0).length c7)) (p := ⟨b2, 1, none⟩) (fun k hk => by have := HLT.out.2.2.2; show k ≠ b2; omega) (.slice A6 (dropF x.f1 id).length c6)
        have hR7 := Kd.R_far (Kd.R_far HR78.out (p := ⟨b2, 0, none⟩) (fun k hk => by have := HLT.out.2.1; show k ≠ b2; omega) (.slice A7 (putF id x.f0).length c7)) (p := ⟨b2, 1, none⟩) (fun k hk => by have := HLT.out.2.1; show k ≠ b2; omega) (.slice A6 (dropF x.f1 id).length c6)
        exact ⟨_, rfl, ⟨A7, c7, A6, c6, rfl, (Kd.R_reads' hR7).2.2, (Kd.R_reads' hR7).2.1, (Kd.R_reads' hR6).2.2, (Kd.R_reads' hR6).2.1⟩, hB⟩
    · cases hb with
      | false =>
        have HE : Aside0 (nextE x 3 id = 80) := ⟨by
          unfold nextE
          rw [if_neg HNB.out, if_pos]
          have h := of_decide_eq_false HHB.out
          exact .inr (.inr ⟨rfl, fun h1 => h (.inl h1), fun h1 => h (.inr h1)⟩)⟩
        have HC : Aside0 (nextC x 3 id = z67) := ⟨by unfold nextC; rw [HE.out, if_pos (by decide)]⟩
        go_wp2_with fail
        refine bodyPost_ret (results_ct rfl _ _ b2 67 #[.slice none 0 0, .slice none 0 0] (0, 0) _ rfl (blk_put (cs := #[.slice none 0 0, .slice none 0 0]) (blk_put (cs := #[.slice none 0 0, .slice none 0 0]) K25.out 0 _ rfl) 1 _ rfl) Try.underlying67 rfl (by kernel_rfl)) rfl ?_
        rw [HC.out, HE.out]
        exact ⟨_, rfl, cfv_nil _, (HB6.out.setCell (p := ⟨b2, 0, none⟩) HG.out.2.2 _).setCell (p := ⟨b2, 1, none⟩) HG.out.2.2 _⟩
      | true =>
        have hin := of_decide_eq_true HHB.out
        by_cases h81 : lb = false ∧ x.f0.length = 1
        · obtain ⟨rfl, h1⟩ := h81
          have t1 : ((x.f0.length : Int) == 1) = true := by rw [h1]; rfl
          have HE : Aside0 (nextE x 3 id = 81) := ⟨by
            unfold nextE
            rw [if_neg HNB.out, if_neg, if_pos ⟨rfl, of_decide_eq_false HLB.out, h1⟩]
            rintro (⟨h, _⟩ | ⟨h, _⟩ | ⟨_, h, h'⟩)
            · exact absurd h (by decide)
            · exact absurd h (by decide)
            · rcases hin with h2 | h2
              · exact h h2
              · exact h' h2⟩
          have HC : Aside0 (nextC x 3 id = z67) := ⟨by unfold nextC; rw [HE.out, if_pos (by decide)]⟩
          clear h1 hin
          go_wp2_with fail
          refine bodyPost_ret (results_ct rfl _ _ b2 67 #[.slice none 0 0, .slice none 0 0] (0, 0) _ rfl (blk_put (cs := #[.slice none 0 0, .slice none 0 0]) (blk_put (cs := #[.slice none 0 0, .slice none 0 0]) K25.out 0 _ rfl) 1 _ rfl) Try.underlying67 rfl (by kernel_rfl)) rfl ?_
          rw [HC.out, HE.out]
          exact ⟨_, rfl, cfv_nil _, (HB6.out.setCell (p := ⟨b2, 0, none⟩) HG.out.2.2 _).setCell (p := ⟨b2, 1, none⟩) HG.out.2.2 _⟩
        · have HE : Aside0 (nextE x 3 id = 0) := ⟨by
            unfold nextE
            rw [if_neg HNB.out, if_neg, if_neg]
            · rintro ⟨_, h, h'⟩
              exact h81 ⟨by rw [← HLB.out]; exact decide_eq_false h, h'⟩
            · rintro (⟨h, _⟩ | ⟨h, _⟩ | ⟨_, h, h'⟩)
              · exact absurd h (by decide)
              · exact absurd h (by decide)
              · rcases hin with h2 | h2
                · exact h h2
                · exact h' h2⟩
          have HC : Aside0 (nextC x 3 id = ⟨dropF x.f0 id, dropF x.f1 id⟩) := ⟨by unfold nextC; rw [HE.out, if_neg (by decide), if_neg (by decide), if_neg (by decide)]⟩
          have h81n : lb = true ∨ ((x.f0.length : Int) == 1) = false := by
            cases lb with
            | true => exact .inl rfl
            | false => exact .inr (beq_eq_false_iff_ne.2 (fun h => h81 ⟨rfl, by omega⟩))
          clear hin h81
          have HW1 : Aside0 (∀ W, Below w5.heap.size w5 W → Calls Try.prog 126 #[.slice A1 x.f1.length c1, .int .i64 id] W fun e w' => ∃ v, e = .returned v ∧ R3 w' W.heap.size v (dropF x.f1 id) ∧ Below W.heap.size W w') := ⟨fun W hW => without_calls A1 c1 x.f1 id W (HCF5.out.below hW).g1 (by omega)⟩
          have HW2 : Aside0 (∀ W, Below w5.heap.size w5 W → Calls Try.prog 126 #[.slice A0 x.f0.length c0, .int .i64 id] W fun e w' => ∃ v, e = .returned v ∧ R3 w' W.heap.size v (dropF x.f0 id) ∧ Below W.heap.size W w') := ⟨fun W hW => without_calls A0 c0 x.f0 id W (HCF5.out.below hW).g0 (by omega)⟩
          have HD5 : Aside0 (Below w5.heap.size w5 w5.drew) := ⟨(Below.refl _ _).drew⟩
          have HSS : Aside0 (∀ W, Below w5.heap.size w5 W → W.cell? ⟨b0, 0, none⟩ = some (.slice A0 x.f0.length c0) ∧ W.cell? ⟨b0, 1, none⟩ = some (.slice A1 x.f1.length c1) ∧ W.cell? ⟨b1, 1, none⟩ = some (.int .i64 id)) := ⟨fun W hW => ⟨(blk_cell (blk_below K05.out hW) 0).trans rfl, (blk_cell (blk_below K05.out hW) 1).trans rfl, (blk_cell (blk_below K15.out hW) 1).trans rfl⟩⟩
          go_upto_region 9 with fail
          go_cut [77] (fun v77 wx => v77 = .bool false ∧ Aside0 (wx = w5))
          case first =>
            cases lb with
            | true =>
              clear h81n
              go_wp2_with fail
              go_meet
              case rel => exact ⟨rfl, ⟨rfl⟩⟩
            | false =>
              have t1 : ((x.f0.length : Int) == 1) = false := h81n.resolve_left (by decide)
              clear h81n
              go_wp2_with fail
              go_meet
              case rel => exact ⟨rfl, ⟨rfl⟩⟩
          case rest =>
            clear h81n
            obtain ⟨rfl, HWC⟩ := hcut
            have hww := HWC.out.symm
            subst hww
            clear HWC
            go_upto_region 2 with fail
            clear d0 r0 r1 q0 q1 a0 a1 d1
            refine start_ (n := 14) (S := fun w' => w'.cell? ⟨b0, 0, none⟩ = some (.slice A0 x.f0.length c0) ∧ w'.cell? ⟨b0, 1, none⟩ = some (.slice A1 x.f1.length c1) ∧ w'.cell? ⟨b1, 1, none⟩ = some (.int .i64 id)) (ds := [11, 13]) #[false, false, false, false, false, false, false, false, false, false, false, false, false, false] (by kernel_rfl) rfl rfl (HSS.out _ HD5.out) (fun hHeld => ?_)
            refine pure_ (i := 0) (N := some 17) (v := ?_) (a' := ?_) #[true, false, false, false, false, false, false, false, false, false, false, false, false, false] rfl rfl (by kernel_rfl) (fun _ _ _ h => h) (Or.inl ⟨by rfl, ?_⟩) ?_ ?_
            rotate_left
            · intro w'
              go_simp
              with_reducible rfl
            rotate_left
            · simp only [Act.put, List.setIfInBounds_toArray, List.set_cons_zero, List.set_cons_succ, i64_w, i32_w]
              rfl
            refine pure_ (i := 2) (N := some 19) (v := ?_) (a' := ?_) #[true, false, true, false, false, false, false, false, false, false, false, false, false, false] rfl rfl (by kernel_rfl) (fun _ _ _ h => h) (Or.inl ⟨by rfl, ?_⟩) ?_ ?_
            rotate_left
            · intro w'
              go_simp
              with_reducible rfl
            rotate_left
            · simp only [Act.put, List.setIfInBounds_toArray, List.set_cons_zero, List.set_cons_succ, i64_w, i32_w]
              rfl
            refine pure_ (i := 5) (N := some 22) (v := ?_) (a' := ?_) #[true, false, true, false, false, true, false, false, false, false, false, false, false, false] rfl rfl (by kernel_rfl) (fun _ _ _ h => h) (Or.inl ⟨by rfl, ?_⟩) ?_ ?_
            rotate_left
            · intro w'
              go_simp
              with_reducible rfl
            rotate_left
            · simp only [Act.put, List.setIfInBounds_toArray, List.set_cons_zero, List.set_cons_succ, i64_w, i32_w]
              rfl
            refine pure_ (i := 7) (N := some 24) (v := ?_) (a' := ?_) #[true, false, true, false, false, true, false, true, false, false, false, false, false, false] rfl rfl (by kernel_rfl) (fun _ _ _ h => h) (Or.inl ⟨by rfl, ?_⟩) ?_ ?_
            rotate_left
            · intro w'
              go_simp
              with_reducible rfl
            rotate_left
            · simp only [Act.put, List.setIfInBounds_toArray, List.set_cons_zero, List.set_cons_succ, i64_w, i32_w]
              rfl
            refine take_ (i := 1) (N := some 18) (v := ?_) (a' := ?_) #[true, true, true, false, false, true, false, true, false, false, false, false, false, false] rfl rfl (by kernel_rfl) (fun _ _ _ h => h) (Or.inl ⟨by rfl, ?_⟩) hHeld ?_ ?_
            rotate_left
            · rintro w' ⟨s0, s1, s2⟩
              go_simp
              with_reducible rfl
            rotate_left
            · simp only [Act.put, List.setIfInBounds_toArray, List.set_cons_zero, List.set_cons_succ, i64_w, i32_w]
              rfl
            refine take_ (i := 3) (N := some 20) (v := ?_) (a' := ?_) #[true, true, true, true, false, true, false, true, false, false, false, false, false, false] rfl rfl (by kernel_rfl) (fun _ _ _ h => h) (Or.inl ⟨by rfl, ?_⟩) hHeld ?_ ?_
            rotate_left
            · rintro w' ⟨s0, s1, s2⟩
              go_simp
              with_reducible rfl
            rotate_left
            · simp only [Act.put, List.setIfInBounds_toArray, List.set_cons_zero, List.set_cons_succ, i64_w, i32_w]
              rfl
            refine take_ (i := 6) (N := some 23) (v := ?_) (a' := ?_) #[true, true, true, true, false, true, true, true, false, false, false, false, false, false] rfl rfl (by kernel_rfl) (fun _ _ _ h => h) (Or.inl ⟨by rfl, ?_⟩) hHeld ?_ ?_
            rotate_left
            · rintro w' ⟨s0, s1, s2⟩
              go_simp
              with_reducible rfl
            rotate_left
            · simp only [Act.put, List.setIfInBounds_toArray, List.set_cons_zero, List.set_cons_succ, i64_w, i32_w]
              rfl
            refine take_ (i := 8) (N := some 25) (v := ?_) (a' := ?_) #[true, true, true, true, false, true, true, true, true, false, false, false, false, false] rfl rfl (by kernel_rfl) (fun _ _ _ h => h) (Or.inl ⟨by rfl, ?_⟩) hHeld ?_ ?_
            rotate_left
            · rintro w' ⟨s0, s1, s2⟩
              go_simp
              with_reducible rfl
            rotate_left
            · simp only [Act.put, List.setIfInBounds_toArray, List.set_cons_zero, List.set_cons_succ, i64_w, i32_w]
              rfl
            refine one_ (i := 4) (N := some 21) #[true, true, true, true, true, true, true, true, true, false, false, false, false, false] rfl rfl (by kernel_rfl) (by decide) (fun K hK => ?_)
            refine goes_ Try.func126 (by kernel_rfl) rfl #[.slice A1 x.f1.length c1, .int .i64 id] (by rfl) rfl rfl (by (try simp only [List.map_toArray, List.map_cons, List.map_nil]); first | done | rfl) ?_
            refine (HW1.out _ HD5.out).mono ?_
            rintro e w6 ⟨v6, rfl, hr6, hb6⟩
            obtain ⟨A6, c6, rfl⟩ := Kd.R_slice hr6
            have HR6 := Aside0.mk hr6
            have HB66 := Aside0.mk (HD5.out.trans (hb6.mono HD5.out.size))
            clear hr6 hb6
            refine ⟨_, rfl, ?_⟩
            refine hK.out _ _ (HSS.out _ HB66.out) (fun hHeld => ?_)
            clear hK K
            refine norm_ (a' := ?_) ?_ ?_
            rotate_left
            · show Act.put _ (some 21) _ = _
              simp only [Act.put, List.setIfInBounds_toArray, List.set_cons_zero, List.set_cons_succ, i64_w, i32_w]
              rfl
            refine pure_ (i := 10) (N := some 27) (v := ?_) (a' := ?_) #[true, true, true, true, true, true, true, true, true, false, true, false, false, false] rfl rfl (by kernel_rfl) (fun _ _ _ h => h) (Or.inl ⟨by rfl, ?_⟩) ?_ ?_
            rotate_left
            · intro w'
              go_simp
              with_reducible rfl
            rotate_left
            · simp only [Act.put, List.setIfInBounds_toArray, List.set_cons_zero, List.set_cons_succ, i64_w, i32_w]
              rfl
            refine one_ (i := 9) (N := some 26) #[true, true, true, true, true, true, true, true, true, true, true, false, false, false] rfl rfl (by kernel_rfl) (by decide) (fun K hK => ?_)
            refine goes_ Try.func126 (by kernel_rfl) rfl #[.slice A0 x.f0.length c0, .int .i64 id] (by rfl) rfl rfl (by (try simp only [List.map_toArray, List.map_cons, List.map_nil]); first | done | rfl) ?_
            refine (HW2.out _ HB66.out).mono ?_
            rintro e w7 ⟨v7, rfl, hr7, hb7⟩
            obtain ⟨A7, c7, rfl⟩ := Kd.R_slice hr7
            have HR67 := Aside0.mk (Kd.R_below HR6.out hb7)
            have HR7 := Aside0.mk hr7
            have HB77 := Aside0.mk (HB66.out.trans (hb7.mono HB66.out.size))
            have HLT : Aside0 (b0 < w6.heap.size ∧ b2 < w6.heap.size ∧ b0 < w5.drew.heap.size ∧ b2 < w5.drew.heap.size) := ⟨⟨Nat.lt_of_lt_of_le (blk_lt K05.out) HB66.out.size, Nat.lt_of_lt_of_le (blk_lt K25.out) HB66.out.size, blk_lt K05.out, blk_lt K25.out⟩⟩
            have K07 := Aside0.mk (blk_below K05.out HB77.out)
            have K27 := Aside0.mk (blk_below K25.out HB77.out)
            have a07 := (blk_cell K07.out 0).trans (show _ = some (Value.slice A0 x.f0.length c0) from rfl)
            have a17 := (blk_cell K07.out 1).trans (show _ = some (Value.slice A1 x.f1.length c1) from rfl)
            have p07 := blk_frozen K07.out 0
            have p17 := blk_frozen K07.out 1
            clear hr7 hb7 HR6
            refine ⟨_, rfl, ?_⟩
            refine hK.out _ _ (HSS.out _ HB77.out) (fun hHeld => ?_)
            clear hK K
            refine norm_ (a' := ?_) ?_ ?_
            rotate_left
            · show Act.put _ (some 26) _ = _
              simp only [Act.put, List.setIfInBounds_toArray, List.set_cons_zero, List.set_cons_succ, i64_w, i32_w]
              rfl
            refine last_ (i := 11) (N := none) #[true, true, true, true, true, true, true, true, true, true, true, true, false, false] rfl rfl (by kernel_rfl) (by decide) (fun K hK => ?_)
            refine skip_ (w1 := ?_) (by rfl) rfl ?_ ?_
            rotate_left
            · go_simp
              rfl
            refine hK.out _ _ ?_
            clear hK K
            refine pure_ (i := 12) (N := some 28) (v := ?_) (a' := ?_) #[true, true, true, true, true, true, true, true, true, true, true, true, true, false] rfl rfl (by kernel_rfl) (fun _ _ _ h => h) (Or.inl ⟨by rfl, ?_⟩) ?_ ?_
            rotate_left
            · intro w'
              go_simp
              with_reducible rfl
            rotate_left
            · simp only [Act.put, List.setIfInBounds_toArray, List.set_cons_zero, List.set_cons_succ, i64_w, i32_w]
              rfl
            refine last_ (i := 13) (N := none) #[true, true, true, true, true, true, true, true, true, true, true, true, true, true] rfl rfl (by kernel_rfl) (by decide) (fun K hK => ?_)
            refine skip_ (w1 := ?_) (by rfl) rfl ?_ ?_
            rotate_left
            · go_simp
              rfl
            refine hK.out _ _ ?_
            clear hK K
            refine done_ (by kernel_rfl) ?_

            have HB8 := Aside0.mk (((HB6.out.trans (HB77.out.mono HB6.out.size)).setCell (p := ⟨b0, 1, none⟩) HG.out.1 (.slice A6 (dropF x.f1 id).length c6)).setCell (p := ⟨b0, 0, none⟩) HG.out.1 (.slice A7 (dropF x.f0 id).length c7))
            have K08 := Aside0.mk (blk_put (cs := #[.slice A0 x.f0.length c0, .slice A6 (dropF x.f1 id).length c6]) (blk_put (cs := #[.slice A0 x.f0.length c0, .slice A1 x.f1.length c1]) K07.out 1 (.slice A6 (dropF x.f1 id).length c6) rfl) 0 (.slice A7 (dropF x.f0 id).length c7) rfl)
            have K28 := Aside0.mk (blk_far (blk_far K27.out (p := ⟨b0, 1, none⟩) HN.out.2.1.symm (.slice A6 (dropF x.f1 id).length c6)) (p := ⟨b0, 0, none⟩) HN.out.2.1.symm (.slice A7 (dropF x.f0 id).length c7))
            have HR68 := Aside0.mk (Kd.R_far (Kd.R_far HR67.out (p := ⟨b0, 1, none⟩) (fun k hk => by have := HLT.out.2.2.1; show k ≠ b0; omega) (.slice A6 (dropF x.f1 id).length c6)) (p := ⟨b0, 0, none⟩) (fun k hk => by have := HLT.out.2.2.1; show k ≠ b0; omega) (.slice A7 (dropF x.f0 id).length c7))
            have HR78 := Aside0.mk (Kd.R_far (Kd.R_far HR7.out (p := ⟨b0, 1, none⟩) (fun k hk => by have := HLT.out.1; show k ≠ b0; omega) (.slice A6 (dropF x.f1 id).length c6)) (p := ⟨b0, 0, none⟩) (fun k hk => by have := HLT.out.1; show k ≠ b0; omega) (.slice A7 (dropF x.f0 id).length c7))
            clear a07 a17 p07 p17 K07 K27 HR67 HR7 hHeld
            generalize (w7.setCell ⟨b0, 1, none⟩ (.slice A6 (dropF x.f1 id).length c6)).setCell ⟨b0, 0, none⟩ (.slice A7 (dropF x.f0 id).length c7) = w8 at HB8 K08 K28 HR68 HR78 ⊢
            have a0 := (blk_cell K08.out 0).trans (show _ = some (Value.slice A7 _ c7) from rfl)
            have a1 := (blk_cell K08.out 1).trans (show _ = some (Value.slice A6 _ c6) from rfl)
            have r0 := (blk_cell K28.out 0).trans (show _ = some (Value.slice none 0 0) from rfl)
            have r1 := (blk_cell K28.out 1).trans (show _ = some (Value.slice none 0 0) from rfl)
            have q0 := blk_frozen K28.out 0
            have q1 := blk_frozen K28.out 1
            go_wp2_with fail
            refine bodyPost_ret (results_ct rfl _ _ b2 67 #[.slice A7 (dropF x.f0 id).length c7, .slice A6 (dropF x.f1 id).length c6] (0, 0) _ rfl (blk_put (cs := #[.slice A7 (dropF x.f0 id).length c7, .slice none 0 0]) (blk_put (cs := #[.slice none 0 0, .slice none 0 0]) K28.out 0 _ rfl) 1 _ rfl) Try.underlying67 rfl (by kernel_rfl)) rfl ?_
            rw [HC.out, HE.out]
            have hB := (HB8.out.setCell (p := ⟨b2, 0, none⟩) HG.out.2.2 (.slice A7 (dropF x.f0 id).length c7)).setCell (p := ⟨b2, 1, none⟩) HG.out.2.2 (.slice A6 (dropF x.f1 id).length c6)
            have hR6 := Kd.R_far (Kd.R_far HR68.out (p := ⟨b2, 0, none⟩) (fun k hk => by have := HLT.out.2.2.2; show k ≠ b2; omega) (.slice A7 (dropF x.f0 id).length c7)) (p := ⟨b2, 1, none⟩) (fun k hk => by have := HLT.out.2.2.2; show k ≠ b2; omega) (.slice A6 (dropF x.f1 id).length c6)
            have hR7 := Kd.R_far (Kd.R_far HR78.out (p := ⟨b2, 0, none⟩) (fun k hk => by have := HLT.out.2.1; show k ≠ b2; omega) (.slice A7 (dropF x.f0 id).length c7)) (p := ⟨b2, 1, none⟩) (fun k hk => by have := HLT.out.2.1; show k ≠ b2; omega) (.slice A6 (dropF x.f1 id).length c6)
            exact ⟨_, rfl, ⟨A7, c7, A6, c6, rfl, (Kd.R_reads' hR7).2.2, (Kd.R_reads' hR7).2.1, (Kd.R_reads' hR6).2.2, (Kd.R_reads' hR6).2.1⟩, hB⟩
end Go.Proofs.Ytkeadpichlgagaa.Me
