/- members: the examples of the document. -/
import Derived.Test.YtkeadpichlgagaaMeG
namespace Go.Proofs.Ytkeadpichlgagaa.Me
open Go.RowKit Go.Lib Go.Sort Go.Shelf Go.Proofs.YtkeadpichlgagaaW.PrintWords Go.Proofs.YtkeadpichlgagaaW.PrintLast Go.Proofs.YtkeadpichlgagaaW.PrintMore
open Go.Proofs.Ytkeadpichlgagaa.PMembersNext Go.Proofs.Ytkeadpichlgagaa.Mp
set_option linter.unusedVariables false
set_option linter.unusedSimpArgs false
set_option linter.unnecessarySimpa false

theorem C_lit {w : World} {bb : Nat} (xs : List Int) (cs : Array Value) (h : w.heap[bb]? = some (.cells cs 3 (0, 0))) (hc : cs.toList = xs.map (Value.int .i64)) (hl : xs.length ≤ 1000000) : (Kd.int .i64).C w (some ⟨bb, 0, none⟩) xs.length xs := by
  have hs : cs.size = xs.length := by rw [← Array.length_toList, hc]; simp
  exact (Kd.R_reads' (R_mk (B := 0) (cap := xs.length) (Nat.zero_le _) h rfl (Nat.le_refl _) (by unfold maxLen; omega) hs (by rw [hc, List.take_of_length_le (by simp)]))).2.2
theorem C_ch {w : World} {bb : Nat} (chs : List S84) (cs : Array Value) (h : w.heap[bb]? = some (.cells cs 84 (0, 0))) (hc : ∀ j p, chs[j]? = some p → cs[j * 2]? = some (.int .i64 p.f0) ∧ cs[j * 2 + 1]? = some (.int .i64 p.f1)) (hl : chs.length ≤ 1000000) : Kd.C k84 w (some ⟨bb, 0, none⟩) chs.length chs := by
  refine ⟨rfl, by omega, fun _ => ⟨_, rfl, fun j p hj => ?_⟩⟩
  obtain ⟨h0, h1⟩ := hc j p hj
  refine ⟨_, rfl, k84_mk w p, fun i u hu => ?_⟩
  rw [Addr.add_lit]
  rcases i with _ | _ | i
  · simp at hu; subst hu
    rw [show (0 : Nat) + (j * k84.sz + 0) = j * 2 from by show 0 + (j * 2 + 0) = j * 2; omega, blk_cell h]; exact h0
  · simp at hu; subst hu
    rw [show (0 : Nat) + (j * k84.sz + (0 + 1)) = j * 2 + 1 from by show 0 + (j * 2 + (0 + 1)) = j * 2 + 1; omega, blk_cell h]; exact h1
  · simp at hu
theorem rt123 : Rt ⟨[1, 2, 3], []⟩ := ⟨fun y hy => (by cases hy), by simp, by decide, ⟨by decide, by decide⟩, Ris.nil⟩
theorem rt1 : Rt ⟨[1], []⟩ := ⟨fun y hy => (by cases hy), by simp, by decide, ⟨by decide, by decide⟩, Ris.nil⟩
theorem ex1 : nxF ⟨[1, 2, 3], []⟩ [⟨1, 4⟩, ⟨2, 4⟩] = (⟨[1, 2, 3, 4], []⟩, 0) := by
  unfold nxF
  rw [if_pos (rtB_iff.2 rt123)]
  rfl
theorem ex2 : nxF ⟨[1], []⟩ [⟨3, 1⟩] = (z67, 81) := by
  unfold nxF
  rw [if_pos (rtB_iff.2 rt1)]
  rfl
set_option maxHeartbeats 4000000 in
set_option maxRecDepth 100000 in
theorem awake_calls (w : World) : Calls Try.prog 49 #[] w fun e w' => e = .returned (.bool true) ∧ Below w.heap.size w w' := by
  have hu67 := Try.underlying67
  have hu84 := Try.underlying84
  go_enter Try.func49, Try.ntmps49
  go_wp2_with fail
  obtain ⟨s0, hs0⟩ : ∃ s, w.heap.size = s := ⟨_, rfl⟩
  have HW : Aside0 (Below w.heap.size w (((w.alloc (Obj.cells #[Value.int IntKind.i64 1, Value.int IntKind.i64 2, Value.int IntKind.i64 3] 3)).alloc (Obj.cells #[Value.slice (some ⟨w.heap.size, 0, none⟩) 3 3, Value.slice none 0 0] 67)).alloc (Obj.cells #[Value.int IntKind.i64 1, Value.int IntKind.i64 4, Value.int IntKind.i64 2, Value.int IntKind.i64 4] 84))) := ⟨(((Below.refl _ w).alloc (Nat.le_refl _) _).alloc (by simp) _).alloc (by simp; omega) _⟩
  have KA := Aside0.mk (blk_alloc (blk_alloc (grown_new (w := w) #[Value.int IntKind.i64 1, Value.int IntKind.i64 2, Value.int IntKind.i64 3] 3) (Obj.cells #[Value.slice (some ⟨w.heap.size, 0, none⟩) 3 3, Value.slice none 0 0] 67)) (Obj.cells #[Value.int IntKind.i64 1, Value.int IntKind.i64 4, Value.int IntKind.i64 2, Value.int IntKind.i64 4] 84))
  have KC := Aside0.mk (blk_alloc (grown_new (w := w.alloc (Obj.cells #[Value.int IntKind.i64 1, Value.int IntKind.i64 2, Value.int IntKind.i64 3] 3)) #[Value.slice (some ⟨w.heap.size, 0, none⟩) 3 3, Value.slice none 0 0] 67) (Obj.cells #[Value.int IntKind.i64 1, Value.int IntKind.i64 4, Value.int IntKind.i64 2, Value.int IntKind.i64 4] 84))
  have KH := Aside0.mk (grown_new (w := (w.alloc (Obj.cells #[Value.int IntKind.i64 1, Value.int IntKind.i64 2, Value.int IntKind.i64 3] 3)).alloc (Obj.cells #[Value.slice (some ⟨w.heap.size, 0, none⟩) 3 3, Value.slice none 0 0] 67)) #[Value.int IntKind.i64 1, Value.int IntKind.i64 4, Value.int IntKind.i64 2, Value.int IntKind.i64 4] 84)
  simp only [World.size_alloc] at KC KH
  generalize ((w.alloc (Obj.cells #[Value.int IntKind.i64 1, Value.int IntKind.i64 2, Value.int IntKind.i64 3] 3)).alloc (Obj.cells #[Value.slice (some ⟨w.heap.size, 0, none⟩) 3 3, Value.slice none 0 0] 67)).alloc (Obj.cells #[Value.int IntKind.i64 1, Value.int IntKind.i64 4, Value.int IntKind.i64 2, Value.int IntKind.i64 4] 84) = w1 at HW KA KC KH ⊢
  generalize w.heap.size + 1 + 1 = bh at KH ⊢
  generalize w.heap.size + 1 = bc at KC ⊢
  rw [hs0] at KA KC ⊢
  clear hs0
  have HCA : Aside0 (CfR w1 ⟨[1, 2, 3], []⟩ (some ⟨s0, 0, none⟩) 3 none 0) := ⟨⟨C_lit [1, 2, 3] _ KA.out rfl (by decide), by decide, ⟨rfl, by decide, fun h => by simp at h⟩, by decide⟩⟩
  refine (Next_calls (some ⟨s0, 0, none⟩) none 3 0 ⟨[1, 2, 3], []⟩ (some ⟨bh, 0, none⟩) 2 [⟨1, 4⟩, ⟨2, 4⟩] w1 HCA.out (C_ch [⟨1, 4⟩, ⟨2, 4⟩] _ KH.out (fun j p hj => by
    rcases j with _ | _ | j
    · simp at hj; subst hj; exact ⟨rfl, rfl⟩
    · simp at hj; subst hj; exact ⟨rfl, rfl⟩
    · simp at hj) (by decide)) (by decide) (by decide)).mono ?_
  rintro e w2 ⟨v, rfl, ⟨D0, d0, D1, d1, rfl, hcf⟩, hb⟩
  rw [ex1] at hcf ⊢
  have HCD := Aside0.mk hcf
  have HCC := Aside0.mk (HCA.out.below hb)
  have KC2 := Aside0.mk (blk_below KC.out hb)
  have HW2 := Aside0.mk (HW.out.trans (hb.mono HW.out.size))
  clear hb hcf HCA KA KC KH HW
  go_wp2_with fail
  have HV : Aside0 (Below w2.heap.size w2 (((w2.alloc (Obj.cells #[Value.slice D0 4 d0, Value.slice D1 0 d1] 67)).alloc (Obj.cells #[Value.int IntKind.i64 1] 3)).alloc (Obj.cells #[Value.int IntKind.i64 3, Value.int IntKind.i64 1] 84))) := ⟨(((Below.refl _ w2).alloc (Nat.le_refl _) _).alloc (by simp) _).alloc (by simp; omega) _⟩
  have KD := Aside0.mk (blk_alloc (blk_alloc (grown_new (w := w2) #[Value.slice D0 4 d0, Value.slice D1 0 d1] 67) (Obj.cells #[Value.int IntKind.i64 1] 3)) (Obj.cells #[Value.int IntKind.i64 3, Value.int IntKind.i64 1] 84))
  have KA := Aside0.mk (blk_alloc (grown_new (w := w2.alloc (Obj.cells #[Value.slice D0 4 d0, Value.slice D1 0 d1] 67)) #[Value.int IntKind.i64 1] 3) (Obj.cells #[Value.int IntKind.i64 3, Value.int IntKind.i64 1] 84))
  have KH := Aside0.mk (grown_new (w := (w2.alloc (Obj.cells #[Value.slice D0 4 d0, Value.slice D1 0 d1] 67)).alloc (Obj.cells #[Value.int IntKind.i64 1] 3)) #[Value.int IntKind.i64 3, Value.int IntKind.i64 1] 84)
  simp only [World.size_alloc] at KA KH
  generalize ((w2.alloc (Obj.cells #[Value.slice D0 4 d0, Value.slice D1 0 d1] 67)).alloc (Obj.cells #[Value.int IntKind.i64 1] 3)).alloc (Obj.cells #[Value.int IntKind.i64 3, Value.int IntKind.i64 1] 84) = w3 at HV KD KA KH ⊢
  generalize w2.heap.size + 1 + 1 = bh2 at KH ⊢
  generalize w2.heap.size + 1 = ba2 at KA ⊢
  have HW3 := Aside0.mk (HW2.out.trans (HV.out.mono HW2.out.size))
  have HCD3 := Aside0.mk (HCD.out.below HV.out)
  have HCC3 := Aside0.mk (HCC.out.below HV.out)
  have KC3 := Aside0.mk (blk_below KC2.out HV.out)
  generalize w2.heap.size = bd at KD ⊢
  clear HV HW2 HCD HCC KC2
  have HCA : Aside0 (CfR w3 ⟨[1], []⟩ (some ⟨ba2, 0, none⟩) 1 none 0) := ⟨⟨C_lit [1] _ KA.out rfl (by decide), by decide, ⟨rfl, by decide, fun h => by simp at h⟩, by decide⟩⟩
  refine (Next_calls (some ⟨ba2, 0, none⟩) none 1 0 ⟨[1], []⟩ (some ⟨bh2, 0, none⟩) 1 [⟨3, 1⟩] w3 HCA.out (C_ch [⟨3, 1⟩] _ KH.out (fun j p hj => by
    rcases j with _ | j
    · simp at hj; subst hj; exact ⟨rfl, rfl⟩
    · simp at hj) (by decide)) (by decide) (by decide)).mono ?_
  rintro e w4 ⟨v, rfl, ⟨E0, g0, E1, g1, rfl, hcf⟩, hb⟩
  rw [ex2]
  have HCD4 := Aside0.mk (HCD3.out.below hb)
  have HCC4 := Aside0.mk (HCC3.out.below hb)
  have KC4 := Aside0.mk (blk_below KC3.out hb)
  have KD4 := Aside0.mk (blk_below KD.out hb)
  have HW4 := Aside0.mk (HW3.out.trans (hb.mono HW3.out.size))
  clear hb hcf HCA KA KC3 KH HW3 KD HCD3 HCC3
  go_upto_region 4 with fail
  have HV : Aside0 (Below w4.heap.size w4 (w4.alloc (Obj.cells #[Value.slice E0 z67.f0.length g0, Value.slice E1 z67.f1.length g1] 67))) := ⟨(Below.refl _ w4).alloc (Nat.le_refl _) _⟩
  generalize w4.alloc (Obj.cells #[Value.slice E0 z67.f0.length g0, Value.slice E1 z67.f1.length g1] 67) = w5 at HV ⊢
  have HCD5 := Aside0.mk (HCD4.out.below HV.out)
  have HCC5 := Aside0.mk (HCC4.out.below HV.out)
  have KC5 := Aside0.mk (blk_below KC4.out HV.out)
  have KD5 := Aside0.mk (blk_below KD4.out HV.out)
  have HW5 := Aside0.mk (HW4.out.trans (HV.out.mono HW4.out.size))
  clear HV HCD4 HCC4 KC4 KD4 HW4
  have z0 := (blk_cell KC5.out 0).trans (show _ = some (Value.slice (some ⟨s0, 0, none⟩) 3 3) from rfl)
  have z1 := (blk_cell KC5.out 1).trans (show _ = some (Value.slice none 0 0) from rfl)
  go_wp2_with fail
  have HV : Aside0 (Below w5.heap.size w5 (w5.alloc (Obj.cells #[Value.slice (some ⟨s0, 0, none⟩) 3 3, Value.slice none 0 0] 67))) := ⟨(Below.refl _ w5).alloc (Nat.le_refl _) _⟩
  have KB : Aside0 ((w5.alloc (Obj.cells #[Value.slice (some ⟨s0, 0, none⟩) 3 3, Value.slice none 0 0] 67)).heap[w5.heap.size]? = some (.cells #[Value.slice (some ⟨s0, 0, none⟩) 3 3, Value.slice none 0 0] 67 (0, 0))) := ⟨grown_new _ _⟩
  have HCA := Aside0.mk (HCC5.out.below HV.out)
  refine (right_calls (some ⟨w5.heap.size, 0, none⟩) 1 [⟨[1, 2, 3], []⟩] _ (C_conf1 ⟨[1, 2, 3], []⟩ KB.out HCA.out.l0 HCA.out.g0 HCA.out.l1 HCA.out.g1) (fun y hy => by simp at hy; subst hy; exact ⟨by decide, by decide⟩)).mono ?_
  rintro e w6 ⟨rfl, hb⟩
  have hbb := HV.out.trans (hb.mono HV.out.size)
  rw [show ([⟨[1, 2, 3], []⟩] : List S67).all rtB = true from by simp [rtB_iff.2 rt123]]
  have HCD6 := Aside0.mk (HCD5.out.below hbb)
  have HCC6 := Aside0.mk (HCC5.out.below hbb)
  have KC6 := Aside0.mk (blk_below KC5.out hbb)
  have KD6 := Aside0.mk (blk_below KD5.out hbb)
  have HW6 := Aside0.mk (HW5.out.trans (hbb.mono HW5.out.size))
  clear hb hbb HV HCA KB HCD5 HCC5 KC5 KD5 HW5 z0 z1
  have z0 := (blk_cell KC6.out 0).trans (show _ = some (Value.slice (some ⟨s0, 0, none⟩) 3 3) from rfl)
  have z1 := (blk_cell KC6.out 1).trans (show _ = some (Value.slice none 0 0) from rfl)
  go_wp2_with fail
  have HV : Aside0 (Below w6.heap.size w6 (w6.alloc (Obj.cells #[Value.int IntKind.i64 1, Value.int IntKind.i64 3] 3))) := ⟨(Below.refl _ w6).alloc (Nat.le_refl _) _⟩
  have KB : Aside0 ((w6.alloc (Obj.cells #[Value.int IntKind.i64 1, Value.int IntKind.i64 3] 3)).heap[w6.heap.size]? = some (.cells #[Value.int IntKind.i64 1, Value.int IntKind.i64 3] 3 (0, 0))) := ⟨grown_new _ _⟩
  have HCA := Aside0.mk (HCC6.out.below HV.out)
  obtain ⟨km, hkm⟩ := (majority_ev [1, 2, 3] [] [1, 3] (by decide) (by decide)).rounds
  rw [show majB [1, 2, 3] [1, 3] = true from by decide] at hkm
  refine (members_Majority.calls km (some ⟨s0, 0, none⟩) 3 [1, 2, 3] none 0 [] (some ⟨w6.heap.size, 0, none⟩) 2 [1, 3] true _ HCA.out.g0 HCA.out.l0 HCA.out.g1 HCA.out.l1 (C_lit [1, 3] _ KB.out rfl (by decide)) (by decide) hkm).mono ?_
  clear hkm
  rintro e w7 ⟨rfl, hb⟩
  have hbb := HV.out.trans (hb.mono HV.out.size)
  have HCD7 := Aside0.mk (HCD6.out.below hbb)
  have HCC7 := Aside0.mk (HCC6.out.below hbb)
  have KC7 := Aside0.mk (blk_below KC6.out hbb)
  have KD7 := Aside0.mk (blk_below KD6.out hbb)
  have HW7 := Aside0.mk (HW6.out.trans (hbb.mono HW6.out.size))
  clear hb hbb HV HCA KB HCD6 HCC6 KC6 KD6 HW6 z0 z1
  have z0 := (blk_cell KC7.out 0).trans (show _ = some (Value.slice (some ⟨s0, 0, none⟩) 3 3) from rfl)
  have z1 := (blk_cell KC7.out 1).trans (show _ = some (Value.slice none 0 0) from rfl)
  go_wp2_with fail
  have HV : Aside0 (Below w7.heap.size w7 (w7.alloc (Obj.cells #[Value.int IntKind.i64 1, Value.int IntKind.i64 1] 3))) := ⟨(Below.refl _ w7).alloc (Nat.le_refl _) _⟩
  have KB : Aside0 ((w7.alloc (Obj.cells #[Value.int IntKind.i64 1, Value.int IntKind.i64 1] 3)).heap[w7.heap.size]? = some (.cells #[Value.int IntKind.i64 1, Value.int IntKind.i64 1] 3 (0, 0))) := ⟨grown_new _ _⟩
  have HCA := Aside0.mk (HCC7.out.below HV.out)
  obtain ⟨km, hkm⟩ := (majority_ev [1, 2, 3] [] [1, 1] (by decide) (by decide)).rounds
  rw [show majB [1, 2, 3] [1, 1] = false from by decide] at hkm
  refine (members_Majority.calls km (some ⟨s0, 0, none⟩) 3 [1, 2, 3] none 0 [] (some ⟨w7.heap.size, 0, none⟩) 2 [1, 1] false _ HCA.out.g0 HCA.out.l0 HCA.out.g1 HCA.out.l1 (C_lit [1, 1] _ KB.out rfl (by decide)) (by decide) hkm).mono ?_
  clear hkm
  rintro e w8 ⟨rfl, hb⟩
  have hbb := HV.out.trans (hb.mono HV.out.size)
  have HCD8 := Aside0.mk (HCD7.out.below hbb)
  have HCC8 := Aside0.mk (HCC7.out.below hbb)
  have KC8 := Aside0.mk (blk_below KC7.out hbb)
  have KD8 := Aside0.mk (blk_below KD7.out hbb)
  have HW8 := Aside0.mk (HW7.out.trans (hbb.mono HW7.out.size))
  clear hb hbb HV HCA KB HCD7 HCC7 KC7 KD7 HW7 z0 z1
  have z0 := (blk_cell KC8.out 0).trans (show _ = some (Value.slice (some ⟨s0, 0, none⟩) 3 3) from rfl)
  have z1 := (blk_cell KC8.out 1).trans (show _ = some (Value.slice none 0 0) from rfl)
  have x0 := (blk_cell KD8.out 0).trans (show _ = some (Value.slice D0 4 d0) from rfl)
  have x1 := (blk_cell KD8.out 1).trans (show _ = some (Value.slice D1 0 d1) from rfl)
  go_wp2_with fail
  have HV : Aside0 (Below w8.heap.size w8 (w8.alloc (Obj.cells #[Value.int IntKind.i64 1, Value.int IntKind.i64 2, Value.int IntKind.i64 3, Value.int IntKind.i64 4] 3))) := ⟨(Below.refl _ w8).alloc (Nat.le_refl _) _⟩
  have KB : Aside0 ((w8.alloc (Obj.cells #[Value.int IntKind.i64 1, Value.int IntKind.i64 2, Value.int IntKind.i64 3, Value.int IntKind.i64 4] 3)).heap[w8.heap.size]? = some (.cells #[Value.int IntKind.i64 1, Value.int IntKind.i64 2, Value.int IntKind.i64 3, Value.int IntKind.i64 4] 3 (0, 0))) := ⟨grown_new _ _⟩
  have HCA := Aside0.mk (HCD8.out.below HV.out)
  obtain ⟨km, hkm⟩ := (same_ev [1, 2, 3, 4] [] [1, 2, 3, 4] [] (by decide) (by decide)).rounds
  rw [show decide (([1, 2, 3, 4] : List Int) = [1, 2, 3, 4] ∧ ([] : List Int) = []) = true from by decide] at hkm
  refine (echelonref08_Same.calls km D0 d0 [1, 2, 3, 4] D1 d1 [] (some ⟨w8.heap.size, 0, none⟩) 4 [1, 2, 3, 4] none 0 [] true _ HCA.out.g0 HCA.out.l0 HCA.out.g1 HCA.out.l1 (C_lit [1, 2, 3, 4] _ KB.out rfl (by decide)) (by decide) ⟨rfl, by decide, fun h => by simp at h⟩ (by decide) hkm).mono ?_
  clear hkm x0 x1
  rintro e w9 ⟨rfl, hb⟩
  have hbb := HV.out.trans (hb.mono HV.out.size)
  have HCD9 := Aside0.mk (HCD8.out.below hbb)
  have HCC9 := Aside0.mk (HCC8.out.below hbb)
  have KC9 := Aside0.mk (blk_below KC8.out hbb)
  have KD9 := Aside0.mk (blk_below KD8.out hbb)
  have HW9 := Aside0.mk (HW8.out.trans (hbb.mono HW8.out.size))
  clear hb hbb HV HCA KB HCD8 HCC8 KC8 KD8 HW8 z0 z1
  have z0 := (blk_cell KC9.out 0).trans (show _ = some (Value.slice (some ⟨s0, 0, none⟩) 3 3) from rfl)
  have z1 := (blk_cell KC9.out 1).trans (show _ = some (Value.slice none 0 0) from rfl)
  have x0 := (blk_cell KD9.out 0).trans (show _ = some (Value.slice D0 4 d0) from rfl)
  have x1 := (blk_cell KD9.out 1).trans (show _ = some (Value.slice D1 0 d1) from rfl)
  go_wp2_with fail
  refine (members_Quorum.calls D0 d0 [1, 2, 3, 4] D1 d1 [] 3 w9 HCD9.out.g0 HCD9.out.l0 HCD9.out.g1 HCD9.out.l1 (by unfold members_Quorum.f wrap64; decide)).mono ?_
  rintro e w10 ⟨rfl, hb⟩
  have HW10 := Aside0.mk (HW9.out.trans (hb.mono HW9.out.size))
  clear hb
  go_wp2_with fail
  go_ret
  exact ⟨rfl, HW10.out⟩
end Go.Proofs.Ytkeadpichlgagaa.Me
