/- MouldNumbers, walked. -/
import Derived.Test.YtcdlccnpbhjgkaaMnA
import Derived.Test.YtcdlccnpbhjgkaaMoA
import Derived.Deep.RegionHeld3
namespace Go.Proofs.Ytcdlccnpbhjgkaa.Mo
open Go.RowKit Go.Maps Go.Proofs.YtcdlccnpbhjgkaaW.PrintWords Go.Proofs.YtcdlccnpbhjgkaaW.PrintLast Go.Proofs.YtcdlccnpbhjgkaaW.PrintMore
open Go.Proofs.Ytcdlccnpbhjgkaa.PMouldPuts Go.Proofs.Ytcdlccnpbhjgkaa.Mp
set_option linter.unusedVariables false
set_option linter.unusedSimpArgs false

theorem refnumber_calls {n : Int} (h0 : 0 ≤ n) (h1 : n < 18446744073709551616) (w : World) : Calls Try.prog 18 #[.int .u64 n] w fun e w' => ∃ A c, e = .returned (.slice A (numB n).length c) ∧ (numB n).length ≤ c ∧ (Kd.int .u8).C w' A (numB n).length (numB n) ∧ Below w.heap.size w w' := by
  obtain ⟨k, hk⟩ := (refnumber_val h0 h1).rounds
  refine (echelonref01_Number.calls k n _ w hk).mono ?_
  rintro e w' ⟨v, rfl, hR, hB⟩
  obtain ⟨A, c, rfl, hc, hC⟩ := Kd.R_reads hR
  exact ⟨A, c, rfl, hc, hC, hB⟩
/-- Put of one number. -/
theorem putn_calls {n : Int} (h0 : 0 ≤ n) (h1 : n < 18446744073709551616) (w : World) : Calls Try.prog 17 #[.string ⟨#[110]⟩, .slice (some ⟨w.heap.size, 0, none⟩) 1 1] (w.alloc (.cells #[.int .u64 n, .slice none 0 0, .slice none 0 0] 33)) fun e w' =>
    Below w.heap.size w w' ∧ ∃ A c, e = .returned (.tuple #[.slice A (numB n).length c, .int .i64 0]) ∧ (numB n).length ≤ c ∧ (Kd.int .u8).C w' A (numB n).length (numB n) := by
  have ho : ([(⟨n, [], []⟩ : S33)].map (putS (.mk 110 []))).flatten = numB n := by simp [put_eq]
  have hl := numB_len n
  refine (Put_calls [110] [⟨n, [], []⟩] _ 1 _ (C33_new w [⟨n, [], []⟩] _ (reps33 (K33_flat w n)) (by simp)) (by simp) (fun v hv => by simp at hv; subst hv; exact wf_flat h0 h1) (fun k hk => by rw [p_n] at hk; cases hk; rw [ho]; omega)).mono ?_
  intro e w' hq
  obtain ⟨hB, A, c, he, hc, hC⟩ := put_ok hq p_n (by simp [has_eq]) ho
  exact ⟨((Below.refl _ _).alloc (Nat.le_refl _) _).trans (hB.mono (by rw [World.size_alloc]; omega)), A, c, he, hc, hC⟩
theorem lit2 (W : World) (x y : Int) : (Kd.int .u8).R 5 (W.alloc (.cells #[.int .u8 x, .int .u8 y] 5)) W.heap.size (fun k => W.heap.size ≤ k) (.slice (some ⟨W.heap.size, 0, none⟩) 2 2) [x, y] := by
  have hr : Reps ((Kd.int .u8).M W W.heap.size (fun k => W.heap.size ≤ k ∧ some k ≠ (Value.slice (some ⟨W.heap.size, 0, none⟩) 2 2).ownBlock)) 1 [x, y] [.int .u8 x, .int .u8 y] := by
    have := Reps.snoc (Reps.snoc (Reps.none ((Kd.int .u8).M W W.heap.size (fun k => W.heap.size ≤ k ∧ some k ≠ (Value.slice (some ⟨W.heap.size, 0, none⟩) 2 2).ownBlock)) 1) (p := x) (c := [.int .u8 x]) rfl rfl) (p := y) (c := [.int .u8 y]) rfl rfl
    simpa using this
  refine ⟨fun k hk => ?_, ?_⟩
  · simp [Value.ownBlock] at hk
    omega
  · have h := OwnRow.lit (e := 5) W W.heap.size hr (Nat.le_refl _) (by simp)
    exact h.imp_ (fun p c hp => hp)
set_option maxHeartbeats 16000000 in
set_option maxRecDepth 100000 in
theorem numbers_calls (a b : Int) (w : World) (wa : (Lit.int .u64 a).wf = true) (wb : (Lit.int .u64 b).wf = true) : Calls Try.prog 4 #[.int .u64 a, .int .u64 b] w fun e w' => e = .returned (.bool true) ∧ Below w.heap.size w w' := by
  have ha : 0 ≤ a ∧ a < 18446744073709551616 := by simp [Lit.wf, IntKind.min, IntKind.max, IntKind.signed, IntKind.bits] at wa; omega
  have hb : 0 ≤ b ∧ b < 18446744073709551616 := by simp [Lit.wf, IntKind.min, IntKind.max, IntKind.signed, IntKind.bits] at wb; omega
  obtain ⟨ha0, ha1⟩ := ha
  obtain ⟨hb0, hb1⟩ := hb
  clear wa wb
  go_enter Try.func4, Try.ntmps4
  go_wp2_with fail
  refine (awake_calls _).mono ?_
  rintro e w1 ⟨rfl, hB⟩
  have HB1 := Aside0.mk hB
  clear hB
  go_wp2_with fail
  refine (putn_calls ha0 ha1 w1).mono ?_
  rintro e w2 ⟨hB, A1, c1, rfl, hc1, hC1⟩
  have HB2 := Aside0.mk (HB1.out.trans (hB.mono HB1.out.size))
  have HC1 := Aside0.mk hC1
  have HA := Aside0.mk (And.intro ha0 ha1)
  have HL1 := Aside0.mk (numB_len a)
  have HTA := Aside0.mk (take_n ha0 ha1)
  have HRA := Aside0.mk (fun W => refnumber_calls ha0 ha1 W)
  have HBA := Aside0.mk (numB_byt a)
  have HN0 := Aside0.mk (numB_0 a)
  have HMO := Aside0.mk (fun h => numB_mono (a := a) (b := b) h)
  clear hB hC1 HB1 ha0 ha1
  generalize numB a = xs at HC1 HL1 HTA HRA HBA HN0 HMO hc1 ⊢
  go_wp2_with fail
  refine (putn_calls hb0 hb1 w2).mono ?_
  rintro e w3 ⟨hB, A2, c2, rfl, hc2, hC2⟩
  have HB3 := Aside0.mk (HB2.out.trans (hB.mono HB2.out.size))
  have HC1 := Aside0.mk (Kd.C_below HC1.out hB)
  have HL2 := Aside0.mk (numB_len b)
  clear hB HB2 hC2 hb0 hb1
  generalize (numB b).length = ny at HL2 HMO hc2 ⊢
  obtain ⟨r, hr⟩ := HN0.out
  obtain ⟨nx, hnx⟩ : ∃ n, xs.length = n := ⟨_, rfl⟩
  have hl1 := HL1.out
  have hl2 := HL2.out
  rw [hnx] at hr hl1 HMO HRA hc1
  have hC1 := HC1.out
  rw [hnx] at hC1
  obtain ⟨ad, rfl, x0⟩ := Kd.at_int hC1 0 (by omega) (by omega)
  have x0' : w3.cell? ad = some (.int .u8 ((nx - 1 : Nat) : Int)) := by
    have e : rd xs 0 = ((nx - 1 : Nat) : Int) := by rw [hr]; rfl
    rw [e] at x0
    exact x0
  have HC1 := Aside0.mk hC1
  have HNX := Aside0.mk hnx
  have HR := Aside0.mk hr
  rw [hnx]
  clear x0 hC1 hnx hr HL1 HL2 HN0
  have s1 := run_str (P := Try.prog) Try.underlying27 Try.underlying5 Try.underlying9 HC1.out c1
  have s1d := run_str (P := Try.prog) (w := w3.drew) Try.underlying27 Try.underlying5 Try.underlying9 (Kd.C_below HC1.out (Below.refl _ _).drew) c1
  have HRW := Aside0.mk (HRA.out w3.drew)
  have HXC := Aside0.mk x0'
  obtain ⟨m, rfl⟩ : ∃ m, nx = m + 1 := ⟨nx - 1, by omega⟩
  replace HXC : Aside0 (w3.cell? ad = some (.int .u8 (m : Int))) := HXC
  replace HR : Aside0 (xs = (m : Int) :: r) := HR
  obtain ⟨hm1, hm2⟩ := hl1
  obtain ⟨hy1, hy2⟩ := hl2
  by_cases hlt : m + 1 < ny
  · have hab := HMO.out hlt
    have hlt' : ((m : Int) + 1) < (ny : Int) := by omega
    clear hlt
    go_wp2_with fail
    have HK : Aside0 (∀ W', Below w3.heap.size w3 W' → (convert 27 9 (.slice (some ad) (m + 1) c1)).run Try.prog W' = .ok (.string (strOfNums xs)) W' ∧ W'.cell? ad = some (.int .u8 (m : Int))) := ⟨fun W' hB => ⟨run_str (P := Try.prog) Try.underlying27 Try.underlying5 Try.underlying9 (Kd.C_below HC1.out hB) c1, cellB hB HXC.out⟩⟩
    clear s1 s1d x0'
    go_region_held (fun w' => (convert 27 9 (.slice (some ad) (m + 1) c1)).run Try.prog w' = .ok (.string (strOfNums xs)) w' ∧ w'.cell? ad = some (.int .u8 (m : Int))) (first | exact HK.out _ ((Below.refl _ _).drew) | exact HK.out _ HB4.out)
      (first | (go_at_call 18; refine (HRA.out _).mono ?_; rintro e w4 ⟨A4, c4, rfl, hc4, hC4, hB4⟩; have s2 := run_str (P := Try.prog) Try.underlying27 Try.underlying5 Try.underlying9 hC4 c4; have HB4 : Aside0 (Below w3.heap.size w3 w4) := ⟨((Below.refl _ _).drew).trans hB4⟩; clear hc4 hC4 hB4))
    have HT : Aside0 (∀ W, Below w3.heap.size w3 W → Calls Try.prog 19 #[.string ⟨#[110]⟩, .slice (some ad) (m + 1) c1] W (TakeTopQ (⟨a, [], []⟩, 0) W)) := ⟨fun W hB => by
      have h := taketop_calls [110] xs (some ad) c1 W (by rw [HNX.out]; exact Kd.C_below HC1.out hB) (by rw [HNX.out]; exact hc1) HBA.out (by rw [HNX.out]; omega)
      rw [HTA.out, HNX.out] at h
      exact h⟩
    have HBw4 := Aside0.mk (HB3.out.trans (HB4.out.mono HB3.out.size))
    clear s2
    go_wp2_with fail
    refine (HT.out _ HB4.out).mono ?_
    rintro e w5 hq
    obtain ⟨hB, B1, d1, B2, d2, rfl, _, _, _, _⟩ := take_ok hq
    simp only
    have HBw5 := Aside0.mk (HBw4.out.trans (hB.mono HBw4.out.size))
    have HB5 := Aside0.mk (HB4.out.trans (hB.mono HB4.out.size))
    have hN := blk_new w5 (.cells #[.int .u64 a, .slice B1 0 d1, .slice B2 0 d2] 33)
    have HBn : Aside0 (Below w5.heap.size w5 (w5.alloc (.cells #[.int .u64 a, .slice B1 0 d1, .slice B2 0 d2] 33))) := ⟨(Below.refl _ _).alloc (Nat.le_refl _) _⟩
    have haa : (a != a) = false := by simp
    clear hq hB HBw4 HB4
    go_upto_region 8 with fail
    simp only [List.length_nil] at hN HBn ⊢
    generalize w5.alloc (.cells #[.int .u64 a, .slice B1 0 d1, .slice B2 0 d2] 33) = W6 at hN HBn ⊢
    have n0 : W6.cell? ⟨w5.heap.size, 0, none⟩ = some (.int .u64 a) := (blk_cell hN 0).trans rfl
    have HBw6 := Aside0.mk (HBw5.out.trans (HBn.out.mono HBw5.out.size))
    have HB6 := Aside0.mk (HB5.out.trans (HBn.out.mono HB5.out.size))
    have x6 := cellB HB6.out HXC.out
    clear hN HBw5 HB5 HBn
    go_wp2_with fail
    obtain ⟨i5v, i5, i5s⟩ := i5x
    have hC6 := Kd.C_below HC1.out HB6.out
    have hm2 := cut_from (P := Try.prog) 27 5 .i64 Try.underlying27 i5 1 i5s (some ad) (m + 1) c1 1 (by omega) (by omega)
    have hC7 := Kd.C_drop (m := 1) (c := c1) (by rw [HNX.out]; exact hC6) (by rw [HNX.out]; omega) (by rw [HNX.out]; exact hc1)
    have hz : (Kd.int .u8).sz = 1 := rfl
    have e2 : Int.toNat 1 = 1 := rfl
    have hdr : xs.drop 1 = r := by rw [HR.out]; rfl
    have hrl : r.length = m := by have h := HNX.out; rw [HR.out] at h; simpa using h
    rw [hz, hdr] at hC7
    rw [e2, Nat.add_sub_cancel] at hm2
    generalize (if c1 = 1 then some ad else (some ad).map (·.add (1 * 1))) = A9 at hm2 hC7
    have HC7 := Aside0.mk hC7
    have HRL := Aside0.mk hrl
    clear hC6 hC7 hz e2 hdr hrl i5 i5s
    have HLIT : Aside0 ((Kd.int .u8).R 5 (W6.alloc (.cells #[.int .u8 ((m : Int) + 1), .int .u8 0] 5)).drew W6.heap.size (fun k => W6.heap.size ≤ k) (.slice (some ⟨W6.heap.size, 0, none⟩) 2 2) [(m : Int) + 1, 0]) := ⟨Kd.R_drew (lit2 W6 ((m : Int) + 1) 0)⟩
    have hw8 : IntKind.u8.wrap ((m : Int) + 1) = (m : Int) + 1 := by
      simp [IntKind.wrap, IntKind.signed, IntKind.bits]
      omega
    have HB8 : Aside0 (Below W6.heap.size W6 (W6.alloc (.cells #[.int .u8 ((m : Int) + 1), .int .u8 0] 5)).drew) := ⟨((Below.refl _ _).alloc (Nat.le_refl _) _).drew⟩
    have HZ8 : Aside0 (W6.heap.size ≤ (W6.alloc (.cells #[.int .u8 ((m : Int) + 1), .int .u8 0] 5)).drew.heap.size) := ⟨HB8.out.size⟩
    go_region_law (refine Kd.R_append_rows_step (Kd.int .u8) (w0 := W6) W6.heap.size (by rfl) (.tmp 83) (.tmp 85) 27 5 (.int .u8 0) 1 rfl Try.underlying27 info5 rfl (by decide) (by decide) (.slice (some ⟨W6.heap.size, 0, none⟩) 2 2) [(m : Int) + 1, 0] r _ _ _ (fun k => W6.heap.size ≤ k) (fun _ => False) rfl rfl ?aO ?aR (fun _ _ h => h) (fun _ h => h.elim) ?aF ?aB ?aS ?aL ?_; (case aO => exact HLIT.out); (case aR => have h := Kd.C_below HC7.out HB8.out; rw [HRL.out] at h; exact h); (case aF => exact fun k hk => Nat.le_trans HZ8.out hk); (case aB => exact HB8.out); (case aS => exact HZ8.out); (case aL => simp; omega); intro v9 w9 ho hb9 hg hat; obtain ⟨Ax, cx, ev9, hcx, hCx⟩ := Kd.R_reads ho; subst ev9; have HC9 := Aside0.mk (And.intro hcx hCx); have HB9 := Aside0.mk hb9; clear ho hb9 hg hat hcx hCx)
    have HTL := Aside0.mk (take_long (n := (m : Int)) r (by omega))
    have HLB : Aside0 (Byt ([(m : Int) + 1, 0] ++ r)) := ⟨fun x hx => by
      simp at hx
      rcases hx with rfl | rfl | hx
      · omega
      · omega
      · exact HBA.out x (by rw [HR.out]; simp [hx])⟩
    have HLL : Aside0 (([(m : Int) + 1, 0] ++ r).length ≤ 2000000000000) := ⟨by have := HRL.out; simp; omega⟩
    replace HTL : Aside0 (takeTop [110] ([(m : Int) + 1, 0] ++ r) = (⟨0, [], []⟩, 13)) := HTL
    have hll : ([(m : Int) + 1, 0] ++ r).length = r.length + 1 + 1 := by simp
    generalize [(m : Int) + 1, 0] ++ r = ls at HC9 HTL HLB HLL hll
    have HT9 := taketop_calls [110] ls Ax cx w9 HC9.out.2 HC9.out.1 HLB.out HLL.out
    rw [HTL.out, hll] at HT9
    have HT9 := Aside0.mk HT9
    have HBw9 := Aside0.mk (HBw6.out.trans (HB9.out.mono HBw6.out.size))
    clear hll
    clear HC9 HTL HLB HLL HLIT HB8 HZ8 hw8 hm2 x6 n0
    go_wp2_with fail
    refine HT9.out.mono ?_
    rintro e w10 hq
    obtain ⟨hB, D1, g1, D2, g2, rfl, _, _, _, _⟩ := take_ok hq
    have HBw10 : Aside0 (Below w.heap.size w (w10.alloc (.cells #[.int .u64 0, .slice D1 0 g1, .slice D2 0 g2] 33))) := ⟨(HBw9.out.trans (hB.mono HBw9.out.size)).alloc (HBw9.out.trans (hB.mono HBw9.out.size)).size _⟩
    clear hq hB HT9
    go_wp2_with fail
    go_ret
    exact ⟨rfl, HBw10.out⟩
  · have hlt' : (ny : Int) ≤ ((m : Int) + 1) := by omega
    have hd : decide (((m : Int) + 1) < (ny : Int)) = false := decide_eq_false (by omega)
    have hd2 : decide (m + 1 < ny) = false := decide_eq_false (by omega)
    clear hlt
    go_wp2_with fail
    have HK : Aside0 (∀ W', Below w3.heap.size w3 W' → (convert 27 9 (.slice (some ad) (m + 1) c1)).run Try.prog W' = .ok (.string (strOfNums xs)) W' ∧ W'.cell? ad = some (.int .u8 (m : Int))) := ⟨fun W' hB => ⟨run_str (P := Try.prog) Try.underlying27 Try.underlying5 Try.underlying9 (Kd.C_below HC1.out hB) c1, cellB hB HXC.out⟩⟩
    clear s1 s1d x0'
    first
      | (
        go_region_held (fun w' => (convert 27 9 (.slice (some ad) (m + 1) c1)).run Try.prog w' = .ok (.string (strOfNums xs)) w' ∧ w'.cell? ad = some (.int .u8 (m : Int))) (first | exact HK.out _ ((Below.refl _ _).drew) | exact HK.out _ HB4.out)
              (first | (go_at_call 18; refine (HRA.out _).mono ?_; rintro e w4 ⟨A4, c4, rfl, hc4, hC4, hB4⟩; have s2 := run_str (P := Try.prog) Try.underlying27 Try.underlying5 Try.underlying9 hC4 c4; have HB4 : Aside0 (Below w3.heap.size w3 w4) := ⟨((Below.refl _ _).drew).trans hB4⟩; clear hc4 hC4 hB4))
        )
      | fail
    all_goals
      clear hd hd2 hlt'
      have HT : Aside0 (∀ W, Below w3.heap.size w3 W → Calls Try.prog 19 #[.string ⟨#[110]⟩, .slice (some ad) (m + 1) c1] W (TakeTopQ (⟨a, [], []⟩, 0) W)) := ⟨fun W hB => by
        have h := taketop_calls [110] xs (some ad) c1 W (by rw [HNX.out]; exact Kd.C_below HC1.out hB) (by rw [HNX.out]; exact hc1) HBA.out (by rw [HNX.out]; omega)
        rw [HTA.out, HNX.out] at h
        exact h⟩
      have HBw4 := Aside0.mk (HB3.out.trans (HB4.out.mono HB3.out.size))
      clear s2
      go_wp2_with fail
      refine (HT.out _ HB4.out).mono ?_
      rintro e w5 hq
      obtain ⟨hB, B1, d1, B2, d2, rfl, _, _, _, _⟩ := take_ok hq
      simp only
      have HBw5 := Aside0.mk (HBw4.out.trans (hB.mono HBw4.out.size))
      have HB5 := Aside0.mk (HB4.out.trans (hB.mono HB4.out.size))
      have hN := blk_new w5 (.cells #[.int .u64 a, .slice B1 0 d1, .slice B2 0 d2] 33)
      have HBn : Aside0 (Below w5.heap.size w5 (w5.alloc (.cells #[.int .u64 a, .slice B1 0 d1, .slice B2 0 d2] 33))) := ⟨(Below.refl _ _).alloc (Nat.le_refl _) _⟩
      have haa : (a != a) = false := by simp
      clear hq hB HBw4 HB4
      go_upto_region 8 with fail
      simp only [List.length_nil] at hN HBn ⊢
      generalize w5.alloc (.cells #[.int .u64 a, .slice B1 0 d1, .slice B2 0 d2] 33) = W6 at hN HBn ⊢
      have n0 : W6.cell? ⟨w5.heap.size, 0, none⟩ = some (.int .u64 a) := (blk_cell hN 0).trans rfl
      have HBw6 := Aside0.mk (HBw5.out.trans (HBn.out.mono HBw5.out.size))
      have HB6 := Aside0.mk (HB5.out.trans (HBn.out.mono HB5.out.size))
      have x6 := cellB HB6.out HXC.out
      clear hN HBw5 HB5 HBn
      go_wp2_with fail
      obtain ⟨i5v, i5, i5s⟩ := i5x
      have hC6 := Kd.C_below HC1.out HB6.out
      have hm2 := cut_from (P := Try.prog) 27 5 .i64 Try.underlying27 i5 1 i5s (some ad) (m + 1) c1 1 (by omega) (by omega)
      have hC7 := Kd.C_drop (m := 1) (c := c1) (by rw [HNX.out]; exact hC6) (by rw [HNX.out]; omega) (by rw [HNX.out]; exact hc1)
      have hz : (Kd.int .u8).sz = 1 := rfl
      have e2 : Int.toNat 1 = 1 := rfl
      have hdr : xs.drop 1 = r := by rw [HR.out]; rfl
      have hrl : r.length = m := by have h := HNX.out; rw [HR.out] at h; simpa using h
      rw [hz, hdr] at hC7
      rw [e2, Nat.add_sub_cancel] at hm2
      generalize (if c1 = 1 then some ad else (some ad).map (·.add (1 * 1))) = A9 at hm2 hC7
      have HC7 := Aside0.mk hC7
      have HRL := Aside0.mk hrl
      clear hC6 hC7 hz e2 hdr hrl i5 i5s
      have HLIT : Aside0 ((Kd.int .u8).R 5 (W6.alloc (.cells #[.int .u8 ((m : Int) + 1), .int .u8 0] 5)).drew W6.heap.size (fun k => W6.heap.size ≤ k) (.slice (some ⟨W6.heap.size, 0, none⟩) 2 2) [(m : Int) + 1, 0]) := ⟨Kd.R_drew (lit2 W6 ((m : Int) + 1) 0)⟩
      have hw8 : IntKind.u8.wrap ((m : Int) + 1) = (m : Int) + 1 := by
        simp [IntKind.wrap, IntKind.signed, IntKind.bits]
        omega
      have HB8 : Aside0 (Below W6.heap.size W6 (W6.alloc (.cells #[.int .u8 ((m : Int) + 1), .int .u8 0] 5)).drew) := ⟨((Below.refl _ _).alloc (Nat.le_refl _) _).drew⟩
      have HZ8 : Aside0 (W6.heap.size ≤ (W6.alloc (.cells #[.int .u8 ((m : Int) + 1), .int .u8 0] 5)).drew.heap.size) := ⟨HB8.out.size⟩
      go_region_law (refine Kd.R_append_rows_step (Kd.int .u8) (w0 := W6) W6.heap.size (by rfl) (.tmp 83) (.tmp 85) 27 5 (.int .u8 0) 1 rfl Try.underlying27 info5 rfl (by decide) (by decide) (.slice (some ⟨W6.heap.size, 0, none⟩) 2 2) [(m : Int) + 1, 0] r _ _ _ (fun k => W6.heap.size ≤ k) (fun _ => False) rfl rfl ?aO ?aR (fun _ _ h => h) (fun _ h => h.elim) ?aF ?aB ?aS ?aL ?_; (case aO => exact HLIT.out); (case aR => have h := Kd.C_below HC7.out HB8.out; rw [HRL.out] at h; exact h); (case aF => exact fun k hk => Nat.le_trans HZ8.out hk); (case aB => exact HB8.out); (case aS => exact HZ8.out); (case aL => simp; omega); intro v9 w9 ho hb9 hg hat; obtain ⟨Ax, cx, ev9, hcx, hCx⟩ := Kd.R_reads ho; subst ev9; have HC9 := Aside0.mk (And.intro hcx hCx); have HB9 := Aside0.mk hb9; clear ho hb9 hg hat hcx hCx)
      have HTL := Aside0.mk (take_long (n := (m : Int)) r (by omega))
      have HLB : Aside0 (Byt ([(m : Int) + 1, 0] ++ r)) := ⟨fun x hx => by
        simp at hx
        rcases hx with rfl | rfl | hx
        · omega
        · omega
        · exact HBA.out x (by rw [HR.out]; simp [hx])⟩
      have HLL : Aside0 (([(m : Int) + 1, 0] ++ r).length ≤ 2000000000000) := ⟨by have := HRL.out; simp; omega⟩
      replace HTL : Aside0 (takeTop [110] ([(m : Int) + 1, 0] ++ r) = (⟨0, [], []⟩, 13)) := HTL
      have hll : ([(m : Int) + 1, 0] ++ r).length = r.length + 1 + 1 := by simp
      generalize [(m : Int) + 1, 0] ++ r = ls at HC9 HTL HLB HLL hll
      have HT9 := taketop_calls [110] ls Ax cx w9 HC9.out.2 HC9.out.1 HLB.out HLL.out
      rw [HTL.out, hll] at HT9
      have HT9 := Aside0.mk HT9
      have HBw9 := Aside0.mk (HBw6.out.trans (HB9.out.mono HBw6.out.size))
      clear hll
      clear HC9 HTL HLB HLL HLIT HB8 HZ8 hw8 hm2 x6 n0
      go_wp2_with fail
      refine HT9.out.mono ?_
      rintro e w10 hq
      obtain ⟨hB, D1, g1, D2, g2, rfl, _, _, _, _⟩ := take_ok hq
      have HBw10 : Aside0 (Below w.heap.size w (w10.alloc (.cells #[.int .u64 0, .slice D1 0 g1, .slice D2 0 g2] 33))) := ⟨(HBw9.out.trans (hB.mono HBw9.out.size)).alloc (HBw9.out.trans (hB.mono HBw9.out.size)).size _⟩
      clear hq hB HT9
      go_wp2_with fail
      go_ret
      exact ⟨rfl, HBw10.out⟩
end Go.Proofs.Ytcdlccnpbhjgkaa.Mo
