/- Kept of the text SpE: what is reached (wip/tools/prune.py). -/
import Derived.Test.YtnkpleggmiamdaaVSpC
import Derived.Test.YtnkpleggmiamdaaVSpD
import Derived.Test.YtnkpleggmiamdaaVSeB
namespace Go.Proofs.Ytnkpleggmiamdaa.Sp
open Go.RowKit Go.Maps Go.Proofs.YtnkpleggmiamdaaW.PrintWords Go.Proofs.YtnkpleggmiamdaaW.PrintLast Go.Proofs.YtnkpleggmiamdaaW.PrintMore
open Go.Proofs.Ytnkpleggmiamdaa.PSessionParses (S105 z105 k105 info5)
open Go.Proofs.Ytnkpleggmiamdaa.Mo Go.Proofs.Ytnkpleggmiamdaa.Mp Go.Proofs.Ytnkpleggmiamdaa.Ke
open Go.Proofs.Ytnkpleggmiamdaa.Se (rightF TableIs)
set_option linter.unusedVariables false
set_option linter.unusedSimpArgs false
theorem lit0 (W : World) : (Kd.int .u8).R 5 (W.alloc (.cells #[] 5)) W.heap.size (fun k => W.heap.size ≤ k) (.slice (some ⟨W.heap.size, 0, none⟩) 0 0) [] :=
  ⟨fun k hk => by simp [Value.ownBlock] at hk; omega, OwnRow.lit (R := _) (e := 5) (size := 1) (ps := ([] : List Int)) (inner := []) W W.heap.size (Reps.none _ _) (Nat.le_refl _) (by simp)⟩
set_option maxHeartbeats 8000000 in
set_option maxRecDepth 100000 in
theorem sparses_calls (A : Option Addr) (c : Nat) (bs : List Int) (w : World) (hC : (Kd.int .u8).C w A bs.length bs) (hc : bs.length ≤ c) (hx : Byt bs) :
    Calls Try.prog 5 #[.slice A bs.length c] w fun e w' => e = .returned (.bool true) ∧ Below w.heap.size w w' := by
  have HC := Aside0.mk hC
  have HX := Aside0.mk hx
  clear hC hx
  by_cases h1000 : bs.length ≤ 1000
  · have h1' : (bs.length : Int) ≤ 1000 := by omega
    go_enter Try.func5, Try.ntmps5
    go_wp2_with fail
    refine (Se.awake_calls _).mono ?_
    rintro e w1 ⟨rfl, hB⟩
    have HB1 := Aside0.mk hB
    have HBA : Aside0 (Below w1.heap.size w1 (w1.alloc (.cells #[] 5))) := ⟨(Below.refl _ _).alloc (Nat.le_refl _) _⟩
    have HL := Aside0.mk (lit0 w1)
    clear hB
    have HPA := Aside0.mk (fun A c W (hC : (Kd.int .u8).C W A bs.length bs) (hc : bs.length ≤ c) => parse_calls bs A c W hC hc HX.out (by omega))
    have HRA := Aside0.mk (fun W (hB : Below w.heap.size w W) => rparse_calls bs A c W (Kd.C_below HC.out hB) hc HX.out (by omega))
    have HPS := Aside0.mk (fun rows e h => parse_some HX.out (rows := rows) (e := e) h)
    obtain ⟨⟨r, er⟩, hr⟩ : ∃ q, parseS bs = q := ⟨_, rfl⟩
    rw [hr] at HPA HRA HPS
    clear hr
    go_wp2_with ((with_reducible refine gate_builtin (b := .append) (xs := #[.tmp 16, .tmp 17]) rfl ?_); at_builtin; refine Kd.R_append_rows (Kd.int .u8) (w0 := w1) w1.heap.size rfl (.tmp 16) (.tmp 17) 26 5 (.int .u8 0) 1 rfl Try.underlying26 info5 rfl (by decide) (by decide) (.slice (some ⟨w1.heap.size, 0, none⟩) 0 0) [] bs _ _ _ (fun k => w1.heap.size ≤ k) (fun _ => False) rfl rfl ?aO ?aR (fun _ _ h => h) (fun _ hk => hk.elim) ?aF ?aB ?aS ?aL ?_; (case aO => exact HL.out); (case aR => exact Kd.C_below HC.out (HB1.out.trans (HBA.out.mono HB1.out.size))); (case aF => exact fun k hk => Nat.le_trans HBA.out.size hk); (case aB => exact HBA.out); (case aS => exact HBA.out.size); (case aL => simp; omega); intro v5 w5 ho hb hg hat; obtain ⟨A5, c5, ev5, hc5, hC5⟩ := Kd.R_reads ho; subst ev5; have HB5 := Aside0.mk (HB1.out.trans (hb.mono HB1.out.size)); have HC5 := Aside0.mk (And.intro hc5 hC5); clear ho hb hg hat hc5 hC5)
    refine (HPA.out _ _ w5 HC5.out.2 HC5.out.1).mono ?_
    rintro e w6 ⟨hB, hq⟩
    have HB6 := Aside0.mk (HB5.out.trans (hB.mono HB5.out.size))
    clear hB HPA HC5 HL HBA HB1
    have hpp : (er != er) = false := by simp
    rcases hq with ⟨rfl, rfl⟩ | ⟨rows, p, bm, rfl, rfl, hL, hp, hbm⟩
    · simp only at HRA ⊢
      go_wp2_with fail
      refine (HRA.out w6 HB6.out).mono ?_
      rintro e w7 ⟨hB, hq⟩
      have HB7 := Aside0.mk (HB6.out.trans (hB.mono HB6.out.size))
      rcases hq with ⟨_, rfl⟩ | ⟨_, _, _, _, h, _⟩
      · clear hB HRA HPS HB5 HB6
        simp only
        go_wp2_with fail
        go_big_quiet (fail)
        have HB8 := Aside0.mk (pw_below_drewN HB7.out nq)
        go_wp2_with fail
        go_ret
        exact ⟨rfl, HB8.out⟩
      · cases h
    · have HL6 := Aside0.mk hL
      clear hL hp hbm
      simp only at HRA ⊢
      go_wp2_with fail
      refine (HRA.out w6 HB6.out).mono ?_
      rintro e w7 ⟨hB, hq⟩
      have HB7 := Aside0.mk (HB6.out.trans (hB.mono HB6.out.size))
      rcases hq with ⟨h, _⟩ | ⟨rows', q, Aq, nq, h, rfl, hq⟩
      · cases h
      · cases h
        have HQ := Aside0.mk hq
        have HL7 := Aside0.mk (HL6.out.below hB)
        obtain ⟨g0, g1, g2⟩ := HPS.out rows er rfl
        subst g0
        have HFM := Aside0.mk g1
        have HG : Aside0 (goodF (-1) rows = true ∧ rows.length ≤ 100000) := ⟨g2, by
          have h1 := congrArg List.length g1
          unfold formS at h1
          have h2 : ∀ l : List Tr, l.length ≤ ((l.map rowB).flatten).length := by
            intro l
            induction l with
            | nil => simp
            | cons p l ih =>
              have : 1 ≤ (rowB p).length := by unfold rowB numB; simp
              simp only [List.map_cons, List.flatten_cons, List.length_cons, List.length_append]
              omega
          have h3 := h2 rows
          simp only [List.length_append] at h1
          omega⟩
        clear hq hB HRA HPS HL6 HB5 HB6 g1 g2
        simp only
        have HD : Aside0 (Below w7.heap.size w7 w7.drew) := ⟨(Below.refl _ _).drew⟩
        have HC2 : Aside0 (∀ w', Below w7.heap.size w7 w' → (convert 26 9 (.slice A bs.length c)).run Try.prog w' = .ok (.string (strOfNums bs)) w' ∧ w'.cell? ⟨q, 0, none⟩ = some (.slice Aq rows.length nq)) := ⟨fun w' hW => ⟨run_str (P := Try.prog) Try.underlying26 Try.underlying5 Try.underlying9 (Kd.C_below HC.out (HB7.out.trans (hW.mono HB7.out.size))) c, (blk_cell (blk_below HQ.out hW) 0).trans rfl⟩⟩
        go_upto_region 7 with fail
        refine start_ (n := 21) (S := fun w' => (convert 26 9 (.slice A bs.length c)).run Try.prog w' = .ok (.string (strOfNums bs)) w' ∧ w'.cell? ⟨q, 0, none⟩ = some (.slice Aq rows.length nq)) (ds := []) #[false, false, false, false, false, false, false, false, false, false, false, false, false, false, false, false, false, false, false, false, false] (by kernel_rfl) rfl rfl (HC2.out _ HD.out) (fun hHeld => ?_)
        refine pure_ (i := 0) (N := some 37) (v := ?_) (a' := ?_) #[true, false, false, false, false, false, false, false, false, false, false, false, false, false, false, false, false, false, false, false, false] rfl rfl (by kernel_rfl) (fun _ _ _ h => h) (Or.inl ⟨by rfl, ?_⟩) ?_ ?_
        rotate_left
        · intro w'
          go_simp
          with_reducible rfl
        rotate_left
        · simp only [Act.put, List.setIfInBounds_toArray, List.set_cons_zero, List.set_cons_succ, i64_w, i32_w]
          rfl
        refine pure_ (i := 1) (N := some 38) (v := ?_) (a' := ?_) #[true, true, false, false, false, false, false, false, false, false, false, false, false, false, false, false, false, false, false, false, false] rfl rfl (by kernel_rfl) (fun _ _ _ h => h) (Or.inl ⟨by rfl, ?_⟩) ?_ ?_
        rotate_left
        · intro w'
          go_simp
          with_reducible rfl
        rotate_left
        · simp only [Act.put, List.setIfInBounds_toArray, List.set_cons_zero, List.set_cons_succ, i64_w, i32_w]
          rfl
        refine pure_ (i := 2) (N := some 39) (v := ?_) (a' := ?_) #[true, true, true, false, false, false, false, false, false, false, false, false, false, false, false, false, false, false, false, false, false] rfl rfl (by kernel_rfl) (fun _ _ _ h => h) (Or.inl ⟨by rfl, ?_⟩) ?_ ?_
        rotate_left
        · intro w'
          go_simp
          with_reducible rfl
        rotate_left
        · simp only [Act.put, List.setIfInBounds_toArray, List.set_cons_zero, List.set_cons_succ, i64_w, i32_w]
          rfl
        refine pure_ (i := 3) (N := some 40) (v := ?_) (a' := ?_) #[true, true, true, true, false, false, false, false, false, false, false, false, false, false, false, false, false, false, false, false, false] rfl rfl (by kernel_rfl) (fun _ _ _ h => h) (Or.inl ⟨by rfl, ?_⟩) ?_ ?_
        rotate_left
        · intro w'
          go_simp
          with_reducible rfl
        rotate_left
        · simp only [Act.put, List.setIfInBounds_toArray, List.set_cons_zero, List.set_cons_succ, i64_w, i32_w]
          rfl
        refine pure_ (i := 6) (N := some 43) (v := ?_) (a' := ?_) #[true, true, true, true, false, false, true, false, false, false, false, false, false, false, false, false, false, false, false, false, false] rfl rfl (by kernel_rfl) (fun _ _ _ h => h) (Or.inl ⟨by rfl, ?_⟩) ?_ ?_
        rotate_left
        · intro w'
          go_simp
          with_reducible rfl
        rotate_left
        · simp only [Act.put, List.setIfInBounds_toArray, List.set_cons_zero, List.set_cons_succ, i64_w, i32_w]
          rfl
        refine take_ (i := 7) (N := some 44) (v := ?_) (a' := ?_) #[true, true, true, true, false, false, true, true, false, false, false, false, false, false, false, false, false, false, false, false, false] rfl rfl (by kernel_rfl) (fun _ _ _ h => h) (Or.inl ⟨by rfl, ?_⟩) hHeld ?_ ?_
        rotate_left
        · rintro w' ⟨s0, s1⟩
          go_simp
          with_reducible rfl
        rotate_left
        · simp only [Act.put, List.setIfInBounds_toArray, List.set_cons_zero, List.set_cons_succ, i64_w, i32_w]
          rfl
        refine one_ (i := 4) (N := some 41) #[true, true, true, true, true, false, true, true, false, false, false, false, false, false, false, false, false, false, false, false, false] rfl rfl (by kernel_rfl) (by decide) (fun K hK => ?_)
        refine goes_ Try.func25 (by kernel_rfl) rfl #[.pointer (some ⟨p, 0, none⟩)] (by rfl) rfl rfl (by (try simp only [List.map_toArray, List.map_cons, List.map_nil]); first | done | rfl) ?_
        refine (bytes_calls _ p bm rows w7.drew (HL7.out.below HD.out) HG.out.1 HG.out.2 (by rw [HFM.out]; omega)).mono ?_
        rintro e w8 ⟨A8, c8, rfl, hc8, hC8, hb8⟩
        rw [HFM.out] at hC8 hc8 ⊢
        have s8 := run_str (P := Try.prog) Try.underlying26 Try.underlying5 Try.underlying9 hC8 c8
        have HB8 := Aside0.mk (HD.out.trans (hb8.mono HD.out.size))
        have HL8 := Aside0.mk (HL7.out.below HB8.out)
        refine ⟨_, rfl, ?_⟩
        clear hb8 hC8 hc8
        refine hK.out _ _ (HC2.out _ HB8.out) (fun hHeld => ?_)
        clear hK K
        refine norm_ (a' := ?_) ?_ ?_
        rotate_left
        · show Act.put _ (some 41) _ = _
          simp only [Act.put, List.setIfInBounds_toArray, List.set_cons_zero, List.set_cons_succ, i64_w, i32_w]
          rfl
        refine one_ (i := 5) (N := some 42) #[true, true, true, true, true, true, true, true, false, false, false, false, false, false, false, false, false, false, false, false, false] rfl rfl (by kernel_rfl) (by decide) (fun K hK => ?_)
        refine value_ (w1 := ?_) (v := ?_) (by rfl) rfl ?_ ?_
        rotate_left 2
        · go_simp
          constructor
          · rfl
          · rfl
        refine hK.out _ _ (HC2.out _ HB8.out) (fun hHeld => ?_)
        clear hK K
        refine norm_ (a' := ?_) ?_ ?_
        rotate_left
        · show Act.put _ (some 42) _ = _
          simp only [Act.put, List.setIfInBounds_toArray, List.set_cons_zero, List.set_cons_succ, i64_w, i32_w]
          rfl
        refine pure_ (i := 8) (N := some 45) (v := ?_) (a' := ?_) #[true, true, true, true, true, true, true, true, true, false, false, false, false, false, false, false, false, false, false, false, false] rfl rfl (by kernel_rfl) (fun _ _ _ h => h) (Or.inl ⟨by rfl, ?_⟩) ?_ ?_
        rotate_left
        · intro w'
          go_simp
          with_reducible rfl
        rotate_left
        · simp only [Act.put, List.setIfInBounds_toArray, List.set_cons_zero, List.set_cons_succ, i64_w, i32_w]
          rfl
        refine pure_ (i := 9) (N := some 46) (v := ?_) (a' := ?_) #[true, true, true, true, true, true, true, true, true, true, false, false, false, false, false, false, false, false, false, false, false] rfl rfl (by kernel_rfl) (fun _ _ _ h => h) (Or.inl ⟨by rfl, ?_⟩) ?_ ?_
        rotate_left
        · intro w'
          go_simp
          with_reducible rfl
        rotate_left
        · simp only [Act.put, List.setIfInBounds_toArray, List.set_cons_zero, List.set_cons_succ, i64_w, i32_w]
          rfl
        refine pure_ (i := 10) (N := some 47) (v := ?_) (a' := ?_) #[true, true, true, true, true, true, true, true, true, true, true, false, false, false, false, false, false, false, false, false, false] rfl rfl (by kernel_rfl) (fun _ _ _ h => h) (Or.inl ⟨by rfl, ?_⟩) ?_ ?_
        rotate_left
        · intro w'
          go_simp
          with_reducible rfl
        rotate_left
        · simp only [Act.put, List.setIfInBounds_toArray, List.set_cons_zero, List.set_cons_succ, i64_w, i32_w]
          rfl
        refine pure_ (i := 12) (N := some 49) (v := ?_) (a' := ?_) #[true, true, true, true, true, true, true, true, true, true, true, false, true, false, false, false, false, false, false, false, false] rfl rfl (by kernel_rfl) (fun _ _ _ h => h) (Or.inl ⟨by rfl, ?_⟩) ?_ ?_
        rotate_left
        · intro w'
          go_simp
          with_reducible rfl
        rotate_left
        · simp only [Act.put, List.setIfInBounds_toArray, List.set_cons_zero, List.set_cons_succ, i64_w, i32_w]
          rfl
        refine pure_ (i := 13) (N := some 50) (v := ?_) (a' := ?_) #[true, true, true, true, true, true, true, true, true, true, true, false, true, true, false, false, false, false, false, false, false] rfl rfl (by kernel_rfl) (fun _ _ _ h => h) (Or.inl ⟨by rfl, ?_⟩) ?_ ?_
        rotate_left
        · intro w'
          go_simp
          with_reducible rfl
        rotate_left
        · simp only [Act.put, List.setIfInBounds_toArray, List.set_cons_zero, List.set_cons_succ, i64_w, i32_w]
          rfl
        refine pure_ (i := 14) (N := some 51) (v := ?_) (a' := ?_) #[true, true, true, true, true, true, true, true, true, true, true, false, true, true, true, false, false, false, false, false, false] rfl rfl (by kernel_rfl) (fun _ _ _ h => h) (Or.inl ⟨by rfl, ?_⟩) ?_ ?_
        rotate_left
        · intro w'
          go_simp
          with_reducible rfl
        rotate_left
        · simp only [Act.put, List.setIfInBounds_toArray, List.set_cons_zero, List.set_cons_succ, i64_w, i32_w]
          rfl
        refine take_ (i := 15) (N := some 52) (v := ?_) (a' := ?_) #[true, true, true, true, true, true, true, true, true, true, true, false, true, true, true, true, false, false, false, false, false] rfl rfl (by kernel_rfl) (fun _ _ _ h => h) (Or.inl ⟨by rfl, ?_⟩) hHeld ?_ ?_
        rotate_left
        · rintro w' ⟨s0, s1⟩
          go_simp
          with_reducible rfl
        rotate_left
        · simp only [Act.put, List.setIfInBounds_toArray, List.set_cons_zero, List.set_cons_succ, i64_w, i32_w]
          rfl
        refine pure_ (i := 16) (N := some 53) (v := ?_) (a' := ?_) #[true, true, true, true, true, true, true, true, true, true, true, false, true, true, true, true, true, false, false, false, false] rfl rfl (by kernel_rfl) (fun _ _ _ h => h) (Or.inl ⟨by rfl, ?_⟩) ?_ ?_
        rotate_left
        · intro w'
          go_simp
          with_reducible rfl
        rotate_left
        · simp only [Act.put, List.setIfInBounds_toArray, List.set_cons_zero, List.set_cons_succ, i64_w, i32_w]
          rfl
        refine one_ (i := 11) (N := some 48) #[true, true, true, true, true, true, true, true, true, true, true, true, true, true, true, true, true, false, false, false, false] rfl rfl (by kernel_rfl) (by decide) (fun K hK => ?_)
        refine goes_ Try.func22 (by kernel_rfl) rfl #[.pointer (some ⟨p, 0, none⟩)] (by rfl) rfl rfl (by (try simp only [List.map_toArray, List.map_cons, List.map_nil]); first | done | rfl) ?_
        refine (Se.len_calls _ p bm rows w8 HL8.out).mono ?_
        rintro e w9 ⟨rfl, hw9⟩
        have HB9 : Aside0 (Below w7.heap.size w7 w9) := ⟨by rw [hw9]; exact HB8.out⟩
        clear hw9
        refine ⟨_, rfl, ?_⟩
        refine hK.out _ _ (HC2.out _ HB9.out) (fun hHeld => ?_)
        clear hK K
        refine norm_ (a' := ?_) ?_ ?_
        rotate_left
        · show Act.put _ (some 48) _ = _
          simp only [Act.put, List.setIfInBounds_toArray, List.set_cons_zero, List.set_cons_succ, i64_w, i32_w]
          rfl
        refine pure_ (i := 17) (N := some 54) (v := ?_) (a' := ?_) #[true, true, true, true, true, true, true, true, true, true, true, true, true, true, true, true, true, true, false, false, false] rfl rfl (by kernel_rfl) (fun _ _ _ h => h) (Or.inl ⟨by rfl, ?_⟩) ?_ ?_
        rotate_left
        · intro w'
          go_simp
          with_reducible rfl
        rotate_left
        · simp only [Act.put, List.setIfInBounds_toArray, List.set_cons_zero, List.set_cons_succ, i64_w, i32_w]
          rfl
        refine pure_ (i := 18) (N := some 55) (v := ?_) (a' := ?_) #[true, true, true, true, true, true, true, true, true, true, true, true, true, true, true, true, true, true, true, false, false] rfl rfl (by kernel_rfl) (fun _ _ _ h => h) (Or.inl ⟨by rfl, ?_⟩) ?_ ?_
        rotate_left
        · intro w'
          go_simp
          with_reducible rfl
        rotate_left
        · simp only [Act.put, List.setIfInBounds_toArray, List.set_cons_zero, List.set_cons_succ, i64_w, i32_w]
          rfl
        refine pure_ (i := 19) (N := some 56) (v := ?_) (a' := ?_) #[true, true, true, true, true, true, true, true, true, true, true, true, true, true, true, true, true, true, true, true, false] rfl rfl (by kernel_rfl) (fun _ _ _ h => h) (Or.inl ⟨by rfl, ?_⟩) ?_ ?_
        rotate_left
        · intro w'
          go_simp
          with_reducible rfl
        rotate_left
        · simp only [Act.put, List.setIfInBounds_toArray, List.set_cons_zero, List.set_cons_succ, i64_w, i32_w]
          rfl
        refine pure_ (i := 20) (N := some 2) (v := ?_) (a' := ?_) #[true, true, true, true, true, true, true, true, true, true, true, true, true, true, true, true, true, true, true, true, true] rfl rfl (by kernel_rfl) (fun _ _ _ h => h) (Or.inl ⟨by rfl, ?_⟩) ?_ ?_
        rotate_left
        · intro w'
          go_simp
          with_reducible rfl
        rotate_left
        · simp only [Act.put, List.setIfInBounds_toArray, List.set_cons_zero, List.set_cons_succ, i64_w, i32_w]
          rfl
        refine done_ (by kernel_rfl) ?_
        clear hHeld
        go_wp2_with fail
        go_ret
        exact ⟨by first | rfl | simp, HB7.out.trans (HB9.out.mono HB7.out.size)⟩
  · have hI : (1000 : Int) < (bs.length : Int) := by omega
    clear h1000
    go_enter Try.func5, Try.ntmps5
    go_wp2_with fail
    refine (Se.awake_calls _).mono ?_
    rintro e w1 ⟨rfl, hB⟩
    have HB1 := Aside0.mk hB
    clear hB
    go_wp2_with fail
    refine (Se.awake_calls _).mono ?_
    rintro e w2 ⟨rfl, hB⟩
    have HB2 := Aside0.mk (HB1.out.trans (hB.mono HB1.out.size))
    clear hB
    go_wp2_with fail
    go_ret
    exact ⟨rfl, HB2.out⟩
end Go.Proofs.Ytnkpleggmiamdaa.Sp
