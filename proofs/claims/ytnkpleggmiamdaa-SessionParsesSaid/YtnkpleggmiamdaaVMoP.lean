/- Kept of the text MoP: what is reached (wip/tools/prune.py). -/
import Derived.Test.YtnkpleggmiamdaaVMoO
namespace Go.Proofs.Ytnkpleggmiamdaa.Mo
open Go.RowKit Go.Maps Go.Proofs.YtnkpleggmiamdaaW.PrintWords Go.Proofs.YtnkpleggmiamdaaW.PrintLast Go.Proofs.YtnkpleggmiamdaaW.PrintMore
open Go.Proofs.Ytnkpleggmiamdaa.PSessionParses Go.Proofs.Ytnkpleggmiamdaa.Mp
set_option linter.unusedVariables false
set_option linter.unusedSimpArgs false
theorem all_any (k0 : Sh) (xs : List S105) : xs.all (hasS k0) = !(xs.any fun v => !hasS k0 v) := by
  rw [List.not_any_eq_all_not]
  simp
theorem hasL_step : ∀ (ks : List Sh) (vs : List S105) (i : Nat) (h1 : i < ks.length) (h2 : i < vs.length), hasL (ks.drop i) (vs.drop i) = (hasS ks[i] vs[i] && hasL (ks.drop (i + 1)) (vs.drop (i + 1)))
  | ks, vs, i, h1, h2 => by
    rw [List.drop_eq_getElem_cons h1, List.drop_eq_getElem_cons h2]
    conv => lhs; unfold hasL
theorem hasL_end (ks : List Sh) (vs : List S105) (i : Nat) (h : ks.length ≤ i) : hasL (ks.drop i) (vs.drop i) = true := by
  rw [List.drop_of_length_le h]
  unfold hasL
  rfl
theorem has_eq (c : Int) (ks : List Sh) (v : S105) : hasS (.mk c ks) v = if c = 42 then hasA ks v.f2 else if c = 91 then decide (v.f2.length = ks.length) && hasL ks v.f2 else true := by
  conv => lhs; unfold hasS
theorem hasA_cons (k0 : Sh) (ks : List Sh) (vs : List S105) : hasA (k0 :: ks) vs = vs.all (hasS k0) := by
  conv => lhs; unfold hasA
set_option maxHeartbeats 1000000 in
set_option maxRecDepth 100000 in
theorem has_step (c : Int) (ks : List Sh) (ih : ∀ k ∈ ks, HasC k) : HasC (.mk c ks) := by
  intro w ok g hK v A1 c1 A2 c2 hV
  have HBX : Aside0 (Below w.heap.size w ((w.alloc (.cells #[.pointer (some ⟨g, 0, none⟩)] 133)).alloc (.cells #[.int .u64 v.f0, .slice A1 v.f1.length c1, .slice A2 v.f2.length c2] 105))) := ⟨((Below.refl _ _).alloc (Nat.le_refl _) _).alloc (by rw [World.size_alloc]; omega) _⟩
  have hK' := hK.under HBX.out
  have hV' := hV.under HBX.out
  have hN0 := blk_alloc (blk_new w (.cells #[.pointer (some ⟨g, 0, none⟩)] 133)) (.cells #[.int .u64 v.f0, .slice A1 v.f1.length c1, .slice A2 v.f2.length c2] 105)
  have hN1 := blk_new (w.alloc (.cells #[.pointer (some ⟨g, 0, none⟩)] 133)) (.cells #[.int .u64 v.f0, .slice A1 v.f1.length c1, .slice A2 v.f2.length c2] 105)
  have HSZ : Aside0 (((w.alloc (.cells #[.pointer (some ⟨g, 0, none⟩)] 133)).alloc (.cells #[.int .u64 v.f0, .slice A1 v.f1.length c1, .slice A2 v.f2.length c2] 105)).heap.size = w.heap.size + 2) := ⟨by rw [World.size_alloc, World.size_alloc]⟩
  have hsb : (w.alloc (.cells #[.pointer (some ⟨g, 0, none⟩)] 133)).heap.size = w.heap.size + 1 := World.size_alloc _ _
  clear hK hV
  obtain ⟨bb, hbb⟩ : ∃ bb, hasS (.mk c ks) v = bb := ⟨_, rfl⟩
  have HBB := Aside0.mk hbb
  rw [has_eq] at hbb
  have HBQ := Aside0.mk hbb
  clear hbb
  have IH := Aside0.mk ih
  clear ih
  go_enter Try.func88, Try.ntmps88
  rw [hsb] at hN1
  go_upto_region 1 with fail
  generalize (w.alloc (.cells #[.pointer (some ⟨g, 0, none⟩)] 133)).alloc (.cells #[.int .u64 v.f0, .slice A1 v.f1.length c1, .slice A2 v.f2.length c2] 105) = W at HBX hK' hV' hN0 hN1 HSZ ⊢
  have n0 : W.cell? ⟨w.heap.size, 0, none⟩ = some (.pointer (some ⟨g, 0, none⟩)) := (blk_cell hN0 0).trans rfl
  have n1 : W.cell? ⟨w.heap.size + 1, 0, none⟩ = some (.int .u64 v.f0) := (blk_cell hN1 0).trans rfl
  have n2 : W.cell? ⟨w.heap.size + 1, 1, none⟩ = some (.slice A1 v.f1.length c1) := (blk_cell hN1 1).trans rfl
  have n3 : W.cell? ⟨w.heap.size + 1, 2, none⟩ = some (.slice A2 v.f2.length c2) := (blk_cell hN1 2).trans rfl
  have HBN : Aside0 (w.heap.size + 2 = W.heap.size) := ⟨HSZ.out.symm⟩
  clear hsb
  generalize hbn : w.heap.size = bn at n0 n1 n2 n3 hN0 hN1 HBN HBX HSZ ⊢
  have HV := Aside0.mk hV'
  clear hV'
  have HKW := Aside0.mk hK'
  cases hK' with
  | mk hg hb hC hA hcap hw hk =>
    rename_i A cap gs
    have k0 : W.cell? ⟨g, 0, none⟩ = some (.int .u8 c) := (blk_cell hb 0).trans rfl
    have k1 : W.cell? ⟨g, 1, none⟩ = some (.slice A ks.length cap) := (blk_cell hb 1).trans rfl
    have HC := Aside0.mk hC
    have HKK := Aside0.mk hk
    have hmax := hC.2.1
    clear hg hb hC hA hcap hk hN0 hN1
    by_cases h42 : c = 42
    · subst h42
      have hpos := hw rfl
      clear hw
      cases ks with
      | nil => exact absurd hpos (by simp)
      | cons k0' ks' =>
      have HA := Aside0.mk (vany_calls 103 #[.pointer (some ⟨bn, 0, none⟩)] (fun x => !hasS k0' x) A2 v.f2.length c2 v.f2 W HV.out.l cf89 (fun x B1 d1 B2 d2 W1 hb1 hx1 => clo_calls k0' (IH.out k0' (by simp)) 42 ks' g bn ok W1 (HKW.out.under hb1) (cellB hb1 n0) x B1 d1 B2 d2 hx1))
      rw [if_pos rfl, hasA_cons, all_any] at HBQ
      go_wp2_with fail
      refine HA.out.mono ?_
      rintro e w2 ⟨rfl, hB⟩
      have HB2 := Aside0.mk (HBX.out.trans (hB.mono (by have := HBN.out; omega)))
      clear hB
      go_wp2_with fail
      go_ret
      exact ⟨by rw [HBB.out, ← HBQ.out]; rfl, by rw [hbn]; exact HB2.out⟩
    · rw [if_neg h42] at HBQ
      clear hw
      have t42 : (c == (42 : Int)) = false := by simpa using h42
      by_cases h91 : c = 91
      · subst h91
        rw [if_pos rfl] at HBQ
        by_cases hl : v.f2.length = ks.length
        · have hln : ((v.f2.length : Int) != (ks.length : Int)) = false := by rw [hl]; simp
          have HLN := Aside0.mk hl
          rw [decide_eq_true hl, Bool.true_and] at HBQ
          have HV2 := Aside0.mk (HV.out)
          go_wp2_with fail
          go_quiet (fail)
          go_wp2_with fail
          have HBQ2 : Aside0 (hasL (ks.drop 0) (v.f2.drop 0) = bb) := HBQ
          clear HBQ hln
          clear hl
          go_loopg [5, 6, 32] ks.length (fun kq v5 v6 v32 wr => ∃ i : Nat, v32 = .int .i64 i ∧ i + kq = ks.length ∧ Aside0 (hasL (ks.drop i) (v.f2.drop i) = bb) ∧ Aside0 (Below W.heap.size W wr))
          case atStart => exact ⟨0, rfl, by omega, HBQ2, ⟨pw_below_drewN (Below.refl _ _) _⟩⟩
          case round =>
            obtain ⟨i, rfl, hi, HF, HBl⟩ := hrel
            have m0 := cellB HBl.out n0
            have m1 := cellB HBl.out k1
            by_cases hltk : i < ks.length
            · have hlt : i < v.f2.length := by have := HLN.out; omega
              have hlt' : (i : Int) < (v.f2.length : Int) := by omega
              have hltk' : (i : Int) < (ks.length : Int) := by omega
              obtain ⟨ad, B1, d1, B2, d2, rfl, x0, x1, x2, l1, g1, l2, g2⟩ := at_T105 (Kd.C_below HV.out.l HBl.out) i (by omega) hlt'
              simp only [Int.toNat_natCast] at x0 x1 x2
              obtain ⟨pd, rfl, y0⟩ := at_P (Kd.C_below HC.out HBl.out) i hltk
              have HKI : Aside0 (KindIs wr ok ks[i] (gs.getD i 0)) := ⟨(HKK.out i hltk).under HBl.out⟩
              have HFS : Aside0 ((hasS ks[i] (rd_T105 v.f2 i) && hasL (ks.drop (i + 1)) (v.f2.drop (i + 1))) = bb) := ⟨by
                rw [← HF.out, hasL_step ks v.f2 i hltk hlt]
                have : rd_T105 v.f2 (i : Int) = v.f2[i] := by simp [rd_T105, hlt]
                rw [this]⟩
              have IHI := Aside0.mk (IH.out ks[i] (List.getElem_mem hltk))
              generalize rd_T105 v.f2 (i : Int) = u at x0 x1 x2 l1 g1 l2 g2 HFS
              generalize gs.getD i 0 = gi at y0 HKI
              have HU : Aside0 (ValIs wr u B1 d1 B2 d2) := ⟨⟨g1, l1, g2, l2⟩⟩
              have hA : Below wr.heap.size wr (wr.alloc (.cells #[.int .u64 u.f0, .slice B1 u.f1.length d1, .slice B2 u.f2.length d2] 105)) := (Below.refl _ _).alloc (Nat.le_refl _) _
              have HBA : Aside0 (Below W.heap.size W (wr.alloc (.cells #[.int .u64 u.f0, .slice B1 u.f1.length d1, .slice B2 u.f2.length d2] 105))) := ⟨HBl.out.trans (hA.mono HBl.out.size)⟩
              have q0 := cellB HBA.out n0
              have q1 := cellB HBA.out k1
              have q2 := cellB hA y0
              have qn := blk_new wr (.cells #[.int .u64 u.f0, .slice B1 u.f1.length d1, .slice B2 u.f2.length d2] 105)
              have HC3 : Aside0 (Calls Try.prog 88 #[.pointer (some ⟨gi, 0, none⟩), .agg #[.int .u64 u.f0, .slice B1 u.f1.length d1, .slice B2 u.f2.length d2]] (wr.alloc (.cells #[.int .u64 u.f0, .slice B1 u.f1.length d1, .slice B2 u.f2.length d2] 105)).drew fun e w' => e = .returned (.bool (hasS ks[i] u)) ∧ Below (wr.alloc (.cells #[.int .u64 u.f0, .slice B1 u.f1.length d1, .slice B2 u.f2.length d2] 105)).drew.heap.size (wr.alloc (.cells #[.int .u64 u.f0, .slice B1 u.f1.length d1, .slice B2 u.f2.length d2] 105)).drew w') :=
                ⟨IHI.out _ ok gi (HKI.out.under hA.drew) u B1 d1 B2 d2 (HU.out.under hA.drew)⟩
              clear hA g1 l1 g2 l2
              go_upto_region 10 with fail
              generalize (wr.alloc (.cells #[.int .u64 u.f0, .slice B1 u.f1.length d1, .slice B2 u.f2.length d2] 105)) = W3 at *
              generalize wr.heap.size = bx at *
              have q3 : W3.cell? ⟨bx, 0, none⟩ = some (.int .u64 u.f0) := (blk_cell qn 0).trans rfl
              have q4 : W3.cell? ⟨bx, 1, none⟩ = some (.slice B1 u.f1.length d1) := (blk_cell qn 1).trans rfl
              have q5 : W3.cell? ⟨bx, 2, none⟩ = some (.slice B2 u.f2.length d2) := (blk_cell qn 2).trans rfl
              clear qn m0 m1 n0 n1 n2 n3 k0 k1 x0 x1 x2 y0
              go_still_tail 8, (by kernel_rfl)
              go_wp2_with fail
              refine HC3.out.mono ?_
              rintro e w4 ⟨rfl, hB4⟩
              have HB4 : Aside0 (Below W.heap.size W w4) := ⟨HBA.out.trans ((((Below.refl _ _).drew).trans hB4).mono HBA.out.size)⟩
              clear hB4 HC3 q0 q1 q2 q3 q4 q5
              cases hc : hasS ks[i] u with
              | false =>
                rw [hc, Bool.false_and] at HFS
                go_wp2_with fail
                go_ret
                exact ⟨by rw [HBB.out, ← HFS.out]; rfl, by rw [hbn]; exact HBX.out.trans (HB4.out.mono (by have := HBX.out.size; omega))⟩
              | true =>
                rw [hc, Bool.true_and] at HFS
                go_wp2_with fail
                go_roundg (gk - 1)
                case measure => omega
                case rel => exact ⟨i + 1, by go_num, by omega, HFS, HB4⟩
            · have HE : Aside0 (true = bb) := ⟨by
                have := HF.out
                rwa [hasL_end ks v.f2 i (by have := HLN.out; omega)] at this⟩
              go_wp2_with fail
              go_ret
              exact ⟨by rw [HBB.out, ← HE.out]; rfl, by rw [hbn]; exact HBX.out.trans (HBl.out.mono (by have := HBX.out.size; omega))⟩
        · have hln : ((v.f2.length : Int) != (ks.length : Int)) = true := by
            rw [bne_iff_ne]
            exact fun e => hl (by omega)
          rw [decide_eq_false hl, Bool.false_and] at HBQ
          clear hl
          go_wp2_with fail
          go_quiet (fail)
          go_wp2_with fail
          go_ret
          exact ⟨by rw [HBB.out, ← HBQ.out]; rfl, by rw [hbn]; exact pw_below_drewN HBX.out _⟩
      · rw [if_neg h91] at HBQ
        have t91 : (c == (91 : Int)) = false := by simpa using h91
        go_wp2_with fail
        go_ret
        exact ⟨by rw [HBB.out, ← HBQ.out]; rfl, by rw [hbn]; exact HBX.out⟩
theorem has_calls : ∀ (k : Sh), HasC k
  | .mk c ks => has_step c ks (fun k hk => has_calls k)
termination_by k => SizeOf.sizeOf k
decreasing_by
  have := List.sizeOf_lt_of_mem hk
  simp
  omega
end Go.Proofs.Ytnkpleggmiamdaa.Mo
