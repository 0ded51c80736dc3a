/- Kept of the text MoX: what is reached (wip/tools/prune.py). -/
import Derived.Test.YtnkpleggmiamdaaVMoW
namespace Go.Proofs.Ytnkpleggmiamdaa.Mo
open Go.RowKit Go.Maps Go.Proofs.YtnkpleggmiamdaaW.PrintWords Go.Proofs.YtnkpleggmiamdaaW.PrintLast Go.Proofs.YtnkpleggmiamdaaW.PrintMore
open Go.Proofs.Ytnkpleggmiamdaa.PSessionParses Go.Proofs.Ytnkpleggmiamdaa.Mp
set_option linter.unusedVariables false
set_option linter.unusedSimpArgs false
def cntS (some : Bool) (bs : List Int) (e : Int) : Int × List Int × Int :=
  if (numS bs e).2.2 = 0 then
    if some = true ∧ ((numS bs e).2.1.length : Int) < (numS bs e).1 then (0, (numS bs e).2.1, 11)
    else if some = false ∧ 1048576 < (numS bs e).1 then (0, (numS bs e).2.1, 13)
    else numS bs e
  else (0, (numS bs e).2.1, (numS bs e).2.2)
def CntQ (sm : Bool) (w0 w : World) (g : Nat) (bs : List Int) (e : Int) (E : Ending) (w' : World) : Prop :=
  ∃ n bs2 e2, cntS sm bs e = (n, bs2, e2) ∧ E = .returned (.int .i64 n) ∧ TkIs w0 w' g bs2 e2 ∧ FrS (fun k => k = g) w w'
theorem numS_range {bs : List Int} (e : Int) (hx : ∀ x ∈ bs, 0 ≤ x ∧ x ≤ 255) : 0 ≤ (numS bs e).1 ∧ (numS bs e).1 < 18446744073709551616 ∧ ((numS bs e).2.2 ≠ 0 → (numS bs e).1 = 0) ∧ (∀ x ∈ (numS bs e).2.1, 0 ≤ x ∧ x ≤ 255) ∧ (numS bs e).2.1.length ≤ bs.length := by
  unfold numS
  split
  · split
    · simp
    · next s r =>
      split
      · exact ⟨by simp, by simp, fun _ => rfl, hx, by simp⟩
      · split
        · exact ⟨by simp, by simp, fun _ => rfl, hx, by simp⟩
        · next h1 h2 =>
          have hs := hx s (by simp)
          have hl : (r.take s.toNat).length = s.toNat := by rw [List.length_take]; omega
          have hb := beN_lt s.toNat (r.take s.toNat) hl (fun x h => hx x (by simp [List.mem_of_mem_take h]))
          have h8 : (256 : Int) ^ s.toNat ≤ 256 ^ 8 := by
            have h := Nat.pow_le_pow_right (show 0 < 256 by decide) (show s.toNat ≤ 8 by omega)
            have h2 : ((256 ^ s.toNat : Nat) : Int) ≤ ((256 ^ 8 : Nat) : Int) := by omega
            rw [Int.natCast_pow, Int.natCast_pow] at h2
            exact h2
          have : (256 : Int) ^ 8 = 18446744073709551616 := by rfl
          exact ⟨hb.1, by simp only; omega, fun h => absurd rfl h, fun x h => hx x (by simp [List.mem_of_mem_drop h]), by simp; omega⟩
  · exact ⟨by simp, by simp, fun _ => rfl, hx, by simp⟩
theorem numS_err {bs : List Int} {e : Int} (h : e ≠ 0) : numS bs e = (0, bs, e) := by unfold numS; rw [if_neg h]
theorem u64_big {n : Int} (h0 : 0 ≤ n) (h1 : n < 18446744073709551616) : IntKind.u64.wrap n = n := by
  simp [IntKind.wrap, IntKind.signed, IntKind.bits]
  omega
theorem i64_big {n : Int} (h0 : 0 ≤ n) (h1 : n ≤ 9223372036854775807) : IntKind.i64.wrap n = n := by
  rw [IntKind.wrap_i64]
  omega
set_option maxHeartbeats 1000000 in
set_option maxRecDepth 100000 in
theorem count_calls (sm : Bool) (w0 w : World) (g : Nat) (bs : List Int) (e : Int) (hB : Below w0.heap.size w0 w) (h : TkIs w0 w g bs e) (hx : ∀ x ∈ bs, 0 ≤ x ∧ x ≤ 255) :
    Calls Try.prog 96 #[.pointer (some ⟨g, 0, none⟩), .bool sm] w (CntQ sm w0 w g bs e) := by
  have HC := Aside0.mk (number_calls w0 w g bs e hB h hx)
  have HR := Aside0.mk (numS_range e hx)
  have HML := Aside0.mk (show bs.length ≤ 9223372036854775807 by
    obtain ⟨⟨A, c, _, _, hC⟩, _⟩ := h
    exact hC.2.1)
  clear hB h hx
  go_enter Try.func96, Try.ntmps96
  go_wp2_with fail
  refine HC.out.mono ?_
  rintro E w1 ⟨n, bs2, e2, hn, rfl, hT, hF⟩
  rw [hn] at HR
  obtain ⟨hn0, hn1, hn2, hbx, hbl⟩ := HR.out
  simp only at hn0 hn1 hn2 hbx hbl
  have HN := Aside0.mk hn
  have HT := Aside0.mk hT
  have HF := Aside0.mk hF
  have HBX := Aside0.mk hbx
  have hlb : bs2.length ≤ 9223372036854775807 := Nat.le_trans hbl HML.out
  obtain ⟨⟨A, c, hb, hc, hC⟩, hg⟩ := hT
  have c0 : w1.cell? ⟨g, 0, none⟩ = some (.slice A bs2.length c) := (blk_cell hb 0).trans rfl
  have c1 : w1.cell? ⟨g, 1, none⟩ = some (.int .i64 e2) := (blk_cell hb 1).trans rfl
  clear hn hF hbx hb hC HC HR hbl
  have hu := u64_len hlb
  by_cases he : e2 = 0
  · subst he
    clear hn2
    cases sm with
    | true =>
      by_cases hlt : (bs2.length : Int) < n
      · have HF1 := Aside0.mk (fail_calls w0 w1 g bs2 0 11 HT.out)
        rw [orE_0] at HF1
        go_wp2_with fail
        refine HF1.out.mono ?_
        rintro E w2 ⟨rfl, hT, hF2⟩
        have HT2 := Aside0.mk hT
        obtain ⟨⟨A2, cp2, hb2, hc2, hC2⟩, _⟩ := hT
        have d1 : w2.cell? ⟨g, 1, none⟩ = some (.int .i64 11) := (blk_cell hb2 1).trans rfl
        have HF2 := Aside0.mk (HF.out.trans hF2)
        clear hb2 hC2 hF2 c0 c1
        go_wp2_with fail
        go_ret
        exact ⟨0, bs2, 11, by unfold cntS; rw [HN.out]; simp [hlt], rfl, HT2.out, HF2.out⟩
      · have hi : IntKind.i64.wrap n = n := i64_big hn0 (by omega)
        go_wp2_with fail
        go_ret
        exact ⟨n, bs2, 0, by unfold cntS; rw [HN.out]; simp [hlt], rfl, HT.out, HF.out⟩
    | false =>
      by_cases hlt : 1048576 < n
      · have HF1 := Aside0.mk (fail_calls w0 w1 g bs2 0 13 HT.out)
        rw [orE_0] at HF1
        go_wp2_with fail
        refine HF1.out.mono ?_
        rintro E w2 ⟨rfl, hT, hF2⟩
        have HT2 := Aside0.mk hT
        obtain ⟨⟨A2, cp2, hb2, hc2, hC2⟩, _⟩ := hT
        have d1 : w2.cell? ⟨g, 1, none⟩ = some (.int .i64 13) := (blk_cell hb2 1).trans rfl
        have HF2 := Aside0.mk (HF.out.trans hF2)
        clear hb2 hC2 hF2 c0 c1
        go_wp2_with fail
        go_ret
        exact ⟨0, bs2, 13, by unfold cntS; rw [HN.out]; simp [hlt], rfl, HT2.out, HF2.out⟩
      · have hi : IntKind.i64.wrap n = n := i64_big hn0 (by omega)
        go_wp2_with fail
        go_ret
        exact ⟨n, bs2, 0, by unfold cntS; rw [HN.out]; simp [hlt], rfl, HT.out, HF.out⟩
  · obtain rfl := hn2 he
    clear hn2
    have t2 : (e2 != 0) = true := by simpa using he
    have HE := Aside0.mk he
    clear he
    cases sm with
    | true =>
      go_wp2_with fail
      go_ret
      exact ⟨0, bs2, e2, by unfold cntS; rw [HN.out]; simp [HE.out], rfl, HT.out, HF.out⟩
    | false =>
      go_wp2_with fail
      go_ret
      exact ⟨0, bs2, e2, by unfold cntS; rw [HN.out]; simp [HE.out], rfl, HT.out, HF.out⟩
theorem cntS_range {sm : Bool} {bs : List Int} (e : Int) (hx : ∀ x ∈ bs, 0 ≤ x ∧ x ≤ 255) : 0 ≤ (cntS sm bs e).1 ∧ ((cntS sm bs e).1 ≤ 1048576 ∨ (cntS sm bs e).1 ≤ (cntS sm bs e).2.1.length) ∧ (sm = true → (cntS sm bs e).1 ≤ (cntS sm bs e).2.1.length) ∧ ((cntS sm bs e).2.2 ≠ 0 → (cntS sm bs e).1 = 0) ∧ (∀ x ∈ (cntS sm bs e).2.1, 0 ≤ x ∧ x ≤ 255) ∧ (cntS sm bs e).2.1.length ≤ bs.length := by
  obtain ⟨h1, h2, h3, h4, h5⟩ := numS_range e hx
  unfold cntS
  split
  · split
    · exact ⟨by simp, by simp, fun _ => by simp, fun _ => rfl, h4, h5⟩
    · split
      · exact ⟨by simp, by simp, fun _ => by simp, fun _ => rfl, h4, h5⟩
      · next a b c =>
        refine ⟨h1, ?_, fun hs => ?_, h3, h4, h5⟩
        · cases sm with
          | true => right; simp at b; omega
          | false => left; simp at c; omega
        · subst hs; simp at b; omega
  · exact ⟨by simp, by simp, fun _ => by simp, fun _ => rfl, h4, h5⟩
structure Bs (w : World) (A : Option Addr) (c : Nat) (bs : List Int) : Prop where
  row : (Kd.int .u8).C w A bs.length bs
  cap : bs.length ≤ c
  len : bs.length ≤ 140737488355328
theorem Bs.nil (w : World) : Bs w none 0 [] := ⟨Kd.C_nil _ _, by simp, by simp⟩
theorem Bs.below {w w1 : World} {A : Option Addr} {c : Nat} {bs : List Int} (h : Bs w A c bs) (hb : Below w.heap.size w w1) : Bs w1 A c bs := ⟨Kd.C_below h.row hb, h.cap, h.len⟩
set_option maxRecDepth 100000 in
theorem clone_calls (A : Option Addr) (c : Nat) (bs : List Int) (w : World) (h : Bs w A c bs) :
    Calls Try.prog 58 #[.slice A bs.length c] w fun e w' => ∃ u, e = .returned u ∧ (Kd.int .u8).R 5 w' w.heap.size (fun k => w.heap.size ≤ k) u bs ∧ Below w.heap.size w w' := by
  cases A with
  | none =>
    obtain rfl : bs = [] := by
      rcases bs with _ | ⟨x, bs⟩
      · rfl
      · obtain ⟨ad, e, _⟩ := h.row.2.2 (by simp); cases e
    have he := Lib.run_eql_slice_nil w 26 5 none 0 c 0 0 Try.underlying26
    go_enter Try.func58, Try.ntmps58
    go_wp2
    go_ret
    exact ⟨_, rfl, Kd.R_nil _ _ _ _ _, Below.refl _ _⟩
  | some a =>
    have he := Lib.run_eql_slice_nil w 26 5 (some a) bs.length c 0 0 Try.underlying26
    have H := Aside0.mk h
    clear h
    go_enter Try.func58, Try.ntmps58
    have hO : (Kd.int .u8).R 5 (w.alloc (.cells #[] 5)) w.heap.size (fun k => k = w.heap.size ∨ w.heap.size < k) (.slice (some ⟨w.heap.size, 0, none⟩) 0 0) [] :=
      ⟨fun k hk => by simp [Value.ownBlock] at hk; exact .inl hk.symm, OwnRow.lit (R := _) (e := 5) (size := 1) (ps := ([] : List Int)) (inner := []) w w.heap.size (Reps.none _ _) (Nat.le_refl _) (by simp)⟩
    have HO := Aside0.mk hO
    clear hO
    go_wp2_with ((with_reducible refine gate_builtin (b := .append) (xs := #[.tmp 5, .tmp 6]) rfl ?_); at_builtin; refine Kd.R_append_rows (Kd.int .u8) (w0 := w) w.heap.size rfl (.tmp 5) (.tmp 6) 26 5 (.int .u8 0) 1 rfl Try.underlying26 info5 rfl (by decide) (by decide) (.slice (some ⟨w.heap.size, 0, none⟩) 0 0) [] bs (some a) bs.length c (fun k => k = w.heap.size ∨ w.heap.size < k) (fun _ => False) rfl rfl ?aO ?aR (fun _ _ h => h) (fun _ hk => hk.elim) ?aF ?aB ?aS ?aL ?_; (case aO => exact HO.out); (case aR => exact Kd.C_alloc H.out.row _); (case aF => (intro q hq; simp at hq; exact .inr (by omega))); (case aB => exact (Below.refl _ _).alloc (Nat.le_refl _) _); (case aS => simp); (case aL => have := H.out.len; simp; omega); intro v5 w5 ho hb hg hat; have HO5 := Aside0.mk ho; have HB5 := Aside0.mk hb; have HAT := Aside0.mk hat; clear ho hb hg hat)
    go_ret
    have ho := HO5.out
    rw [List.nil_append] at ho
    exact ⟨_, rfl, Kd.R_mono ho (fun k hk => by omega), HB5.out⟩
end Go.Proofs.Ytnkpleggmiamdaa.Mo
