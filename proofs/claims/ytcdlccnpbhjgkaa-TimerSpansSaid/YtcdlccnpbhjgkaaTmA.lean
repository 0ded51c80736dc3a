/- TimerFires, walked. -/
import Derived.Test.YtcdlccnpbhjgkaaTiH
namespace Go.Proofs.Ytcdlccnpbhjgkaa.Tm
open Go.RowKit Go.Maps Go.Proofs.YtcdlccnpbhjgkaaW.PrintWords Go.Proofs.YtcdlccnpbhjgkaaW.PrintLast Go.Proofs.YtcdlccnpbhjgkaaW.PrintMore
open Go.Proofs.Ytcdlccnpbhjgkaa.PTimerAlarms Go.Proofs.Ytcdlccnpbhjgkaa.Mp
open Go.Proofs.Ytcdlccnpbhjgkaa.Ti (awake_calls tnew_calls)
set_option linter.unusedVariables false
set_option linter.unusedSimpArgs false

def sp (a0 a1 : Int) : Int := wrap64 (a0 + (wrap64 (Int.tmod a1 (IntKind.u64.wrap a0))))
theorem sp_at (a0 a1 : Int) (h1 : 1 ≤ a0) (h2 : a0 ≤ 2147483648) (h3 : 0 ≤ a1) : timer_Span.f a0 a1 = some (sp a0 a1) ∧ 0 ≤ sp a0 a1 ∧ sp a0 a1 ≤ 4294967296 := by
  have e : IntKind.u64.wrap a0 = a0 := by rw [show IntKind.u64.wrap a0 = a0 % 18446744073709551616 from by simp [IntKind.wrap, IntKind.signed, IntKind.bits]]; omega
  have b1 := Int.tmod_lt_of_pos a1 (show 0 < a0 by omega)
  have b2 := Int.tmod_nonneg a0 h3
  have e2 : sp a0 a1 = a0 + a1.tmod a0 := by unfold sp; rw [e]; unfold wrap64; omega
  refine ⟨?_, by omega, by omega⟩
  unfold timer_Span.f
  rw [if_neg (by omega), if_neg (by omega), e, if_neg (by omega)]
  unfold sp; rw [e]
theorem u64_at (a0 : Int) (h1 : 1 ≤ a0) (h2 : a0 ≤ 2147483648) : IntKind.u64.wrap a0 = a0 := by
  rw [show IntKind.u64.wrap a0 = a0 % 18446744073709551616 from by simp [IntKind.wrap, IntKind.signed, IntKind.bits]]; omega

set_option maxRecDepth 100000 in
theorem rspan_calls (a0 a1 : Int) (w : World) (h1 : 1 ≤ a0) (h2 : a0 ≤ 2147483648) (h3 : 0 ≤ a1) :
    Calls Try.prog 35 #[.int .i64 a0, .int .u64 a1] w fun e w' => e = .returned (.int .i64 (sp a0 a1)) ∧ ∃ m, w' = w.drewN m := by
  have b1 : decide (a0 < 1) = false := decide_eq_false (by omega)
  have b2 : decide (2147483648 < a0) = false := decide_eq_false (by omega)
  have b3 : (IntKind.u64.wrap a0 == 0) = false := by rw [u64_at a0 h1 h2]; simp; omega
  have b4 : ¬ IntKind.u64.wrap a0 = 0 := by rw [u64_at a0 h1 h2]; omega
  have e : sp a0 a1 = wrap64 (a0 + wrap64 (a1 % a0)) := by unfold sp; rw [u64_at a0 h1 h2, Int.tmod_eq_emod_of_nonneg h3]
  go_enter Try.func35, Try.ntmps35
  go_wp2_with fail
  go_ret
  rw [e]
  exact ⟨rfl, 0, rfl⟩
set_option maxRecDepth 100000 in
theorem left_calls (g : Nat) (a l : Int) (w : World) (h : w.heap[g]? = some (.cells #[.int .i64 a, .int .i64 l] 132 (0, 0))) :
    Calls Try.prog 33 #[.pointer (some ⟨g, 0, none⟩)] w fun e w' => e = .returned (.int .i64 l) ∧ w' = w := by
  have c1 : w.cell? ⟨g, 1, none⟩ = some (.int .i64 l) := (blk_cell h 1).trans rfl
  go_enter Try.func33, Try.ntmps33
  go_wp2_with fail
  go_ret
  exact ⟨rfl, rfl⟩
set_option maxRecDepth 100000 in
theorem set_calls (g : Nat) (a l x : Int) (w : World) (h : w.heap[g]? = some (.cells #[.int .i64 a, .int .i64 l] 132 (0, 0))) (h1 : 1 ≤ a) (h2 : a ≤ 2147483648) (h3 : 0 ≤ x) :
    Calls Try.prog 34 #[.pointer (some ⟨g, 0, none⟩), .int .u64 x] w fun e w' => e = .returned (.tuple #[]) ∧ w'.heap[g]? = some (.cells #[.int .i64 a, .int .i64 (sp a x)] 132 (0, 0)) ∧ FrS (fun k => k = g) w w' := by
  have c0 : w.cell? ⟨g, 0, none⟩ = some (.int .i64 a) := (blk_cell h 0).trans rfl
  have c1 : w.cell? ⟨g, 1, none⟩ = some (.int .i64 l) := (blk_cell h 1).trans rfl
  have f1 := blk_frozen h 1
  have HS := Aside0.mk (sp_at a x h1 h2 h3).1
  have H := Aside0.mk h
  clear h
  go_enter Try.func34, Try.ntmps34
  go_wp2_with fail
  refine (timer_Span.calls a x _ w HS.out).mono ?_
  rintro e w1 ⟨rfl, ⟨m, rfl⟩⟩
  go_wp2_with fail
  go_end0
  exact ⟨rfl, blk_set (blk_drewN H.out m) 1 _, ((FrS.refl (fun k => k = g) w).drewN m).set (p := ⟨g, 1, none⟩) (fun _ => rfl) _⟩

set_option maxRecDepth 100000 in
theorem tnew_bad (a0 a1 : Int) (w : World) (h : a0 < 1 ∨ 2147483648 < a0) :
    Calls Try.prog 32 #[.int .i64 a0, .int .u64 a1] w fun e w' => e = .returned (.tuple #[.pointer none, .int .i64 2]) ∧ w' = w := by
  by_cases h1 : a0 < 1
  · have b1 : decide (a0 < 1) = true := decide_eq_true h1
    go_enter Try.func32, Try.ntmps32
    go_wp2_with fail
    go_ret2
    exact ⟨rfl, rfl⟩
  · have b1 : decide (a0 < 1) = false := decide_eq_false h1
    have b2 : decide (2147483648 < a0) = true := decide_eq_true (by omega)
    go_enter Try.func32, Try.ntmps32
    go_wp2_with fail
    go_ret2
    exact ⟨rfl, rfl⟩

def lft (l : Int) : Int := if 0 < l then l - 1 else l
theorem lft_mx {l : Int} (h : 0 ≤ l) (h2 : l ≤ 4294967296) : mx (wrap64 (l - 1)) 0 = lft l := by
  unfold lft mx wrap64
  split <;> split <;> omega
theorem tick_calls (g : Nat) (a l : Int) (w0 w : World) (h : w.heap[g]? = some (.cells #[.int .i64 a, .int .i64 l] 132 (0, 0))) (hg : w0.heap.size ≤ g) (hB : Below w0.heap.size w0 w) (h1 : 0 ≤ l) (h2 : l ≤ 4294967296) :
    Calls Try.prog 36 #[.pointer (some ⟨g, 0, none⟩)] w fun e w' => e = .returned (.bool (lft l == 0)) ∧ w'.heap[g]? = some (.cells #[.int .i64 a, .int .i64 (lft l)] 132 (0, 0)) ∧ Below w0.heap.size w0 w' := by
  refine (timer_Timer_Tick.calls g a l (lft l == 0) a (lft l) w0 w ⟨h, hg⟩ hB (by unfold timer_Timer_Tick.f; rw [lft_mx h1 h2])).mono ?_
  rintro e w' ⟨rfl, hI, hB', _⟩
  exact ⟨rfl, hI.1, hB'⟩
theorem lft_le {l : Int} (h : 0 ≤ l) (h2 : l ≤ 4294967296) : 0 ≤ lft l ∧ lft l ≤ 4294967296 := by unfold lft; split <;> omega

set_option maxHeartbeats 2000000 in
set_option maxRecDepth 100000 in
theorem law_calls (a0 : Int) (A1 : Option Addr) (c1 : Nat) (ds : List Int) (A2 : Option Addr) (c2 : Nat) (ts : List Int) (w : World) (hr1 : (Kd.int .u64).C w A1 ds.length ds) (hc1 : ds.length ≤ c1) (ok1 : ∀ x ∈ ds, (Lit.int .u64 x).wf = true) (hr2 : (Kd.int .i64).C w A2 ts.length ts) (hc2 : ts.length ≤ c2) (ok2 : ∀ x ∈ ts, (Lit.int .i64 x).wf = true) (w0 : (Lit.int .i64 a0).wf = true) :
    Calls Try.prog 8 #[.int .i64 a0, .slice A1 ds.length c1, .slice A2 ts.length c2] w fun e w' => e = .returned (.bool true) ∧ Below w.heap.size w w' := by
  have HR1 := Aside0.mk hr1
  have HR2 := Aside0.mk hr2
  have HK := Aside0.mk (show ∀ x ∈ ds, 0 ≤ x from fun x hx => by have := ok1 x hx; simp [Lit.wf, IntKind.min, IntKind.max, IntKind.signed, IntKind.bits] at this; omega)
  clear hr1 hr2 hc1 hc2 ok1 ok2 w0
  by_cases hlen : (20 : Int) < ds.length ∨ (20 : Int) < ts.length
  · have HL := Aside0.mk hlen
    by_cases h1 : (20 : Int) < ds.length
    · have b1 : decide ((20 : Int) < ds.length) = true := decide_eq_true h1
      clear hlen h1
      go_enter Try.func8, Try.ntmps8
      go_wp2_with fail
      refine (awake_calls _).mono ?_
      rintro e w1 ⟨rfl, hb⟩
      have HB1 := Aside0.mk hb
      clear hb
      go_wp2_with fail
      refine (awake_calls _).mono ?_
      rintro e w2 ⟨rfl, hb⟩
      have HB2 := Aside0.mk (HB1.out.trans (hb.mono HB1.out.size))
      clear hb
      go_wp2_with fail
      go_ret
      exact ⟨rfl, HB2.out⟩
    · have b1 : decide ((20 : Int) < ds.length) = false := decide_eq_false h1
      have b2 : decide ((20 : Int) < ts.length) = true := decide_eq_true (by omega)
      clear hlen h1
      go_enter Try.func8, Try.ntmps8
      go_wp2_with fail
      refine (awake_calls _).mono ?_
      rintro e w1 ⟨rfl, hb⟩
      have HB1 := Aside0.mk hb
      clear hb
      go_wp2_with fail
      refine (awake_calls _).mono ?_
      rintro e w2 ⟨rfl, hb⟩
      have HB2 := Aside0.mk (HB1.out.trans (hb.mono HB1.out.size))
      clear hb
      go_wp2_with fail
      go_ret
      exact ⟨rfl, HB2.out⟩
  · by_cases hbad : a0 < 1 ∨ 2147483648 < a0
    · have HBAD := Aside0.mk hbad
      go_enter Try.func8, Try.ntmps8
      go_wp2_with fail
      refine (awake_calls _).mono ?_
      rintro e w1 ⟨rfl, hb⟩
      have HB1 := Aside0.mk hb
      clear hb
      go_wp2_with fail
      refine (tnew_bad a0 0 w1 HBAD.out).mono ?_
      rintro e w2 ⟨rfl, rfl⟩
      rcases hbad with h1 | h2
      · have b1 : decide (a0 < 1) = true := decide_eq_true h1
        go_wp2_with fail
        go_ret
        exact ⟨rfl, HB1.out⟩
      · have b1 : decide (a0 < 1) = false := decide_eq_false (by omega)
        have b2 : decide (2147483648 < a0) = true := decide_eq_true h2
        go_wp2_with fail
        go_ret
        exact ⟨rfl, HB1.out⟩
    · have h1 : 1 ≤ a0 := by omega
      have h2 : a0 ≤ 2147483648 := by omega
      have b1 : decide (a0 < 1) = false := decide_eq_false (by omega)
      have b2 : decide (2147483648 < a0) = false := decide_eq_false (by omega)
      clear hbad
      go_enter Try.func8, Try.ntmps8
      go_wp2_with fail
      refine (awake_calls _).mono ?_
      rintro e w1 ⟨rfl, hb⟩
      have HB1 := Aside0.mk hb
      clear hb
      go_wp2_with fail
      refine (tnew_calls a0 0 (sp a0 0) w1 (sp_at a0 0 h1 h2 (by omega)).1 h1 h2).mono ?_
      rintro e w2 ⟨gt, rfl, hg, hge, hb⟩
      have HB2 := Aside0.mk (HB1.out.trans (hb.mono HB1.out.size))
      have HG : Aside0 (w2.heap[gt]? = some (.cells #[.int .i64 a0, .int .i64 a0] 132 (0, 0))) := ⟨by
        have e : sp a0 0 = a0 := by unfold sp; rw [u64_at a0 h1 h2]; simp; unfold wrap64; omega
        rw [e] at hg; exact hg⟩
      have HGE := Aside0.mk (Nat.le_trans HB1.out.size hge)
      clear hg hge hb HB1
      go_wp2_with (go_at_call 33; refine (left_calls gt a0 a0 _ HG.out).mono ?_; rintro e w' ⟨rfl, rfl⟩)
      go_loopg [9, 10] ds.length (fun kq v9 v10 wr => ∃ (i : Nat) (l : Int), v10 = .int .i64 i ∧ v9 = .int .i64 l ∧ i + kq = ds.length ∧ 0 ≤ l ∧ l ≤ 4294967296 ∧ Aside0 (wr.heap[gt]? = some (.cells #[.int .i64 a0, .int .i64 l] 132 (0, 0))) ∧ Aside0 (Below w.heap.size w wr))
      case atStart => exact ⟨0, a0, rfl, rfl, by omega, by omega, by omega, HG, HB2⟩
      case round =>
        clear HG HB2
        obtain ⟨i, l, rfl, rfl, hi, hl0, hl1, HG, HB⟩ := hrel
        by_cases hlt : i < ds.length
        · have hlt' : (i : Int) < (ds.length : Int) := by omega
          obtain ⟨ad, rfl, x0⟩ := Kd.at_int (Kd.C_below HR1.out HB.out) i (by omega) hlt'
          have hx0 : 0 ≤ rd ds i := HK.out _ (by simp [rd, hlt])
          simp only [Int.toNat_natCast] at x0
          have HX : Aside0 (w.heap.size ≤ w.heap.size ∧ ∀ W, Below w.heap.size w W → W.cell? (ad.add i) = some (.int .u64 (rd ds i))) := ⟨Nat.le_refl _, fun W hW => by
            obtain ⟨ad', e, y⟩ := Kd.at_int (Kd.C_below HR1.out hW) i (by omega) hlt'
            cases e
            simpa using y⟩
          generalize rd ds i = x at x0 hx0 HX
          go_wp2_with fail
          refine (set_calls gt a0 l x wr HG.out h1 h2 hx0).mono ?_
          rintro e w3 ⟨rfl, hg, hF⟩
          have HG3 := Aside0.mk hg
          have HB3 := Aside0.mk (HB.out.trans (hF.to_below (fun k e => by rw [e]; exact HGE.out) HB.out.size))
          have hsp := sp_at a0 x h1 h2 hx0
          clear hg hF HG HB x0
          have x1 := HX.out.2 w3 HB3.out
          go_wp2_with fail
          refine (rspan_calls a0 x w3 h1 h2 hx0).mono ?_
          rintro e w4 ⟨rfl, m, rfl⟩
          have HG4 := Aside0.mk (blk_drewN HG3.out m)
          have HB4 := Aside0.mk (pw_below_drewN HB3.out m)
          generalize w3.drewN m = w4 at HG4 HB4 ⊢
          obtain ⟨_, hs0, hs1⟩ := hsp
          generalize sp a0 x = l2 at HG4 hs0 hs1 ⊢
          clear HG3 HB3 x1
          by_cases hit : i < ts.length
          · have hit' : (i : Int) < (ts.length : Int) := by omega
            obtain ⟨ad2, rfl, y0⟩ := Kd.at_int (Kd.C_below HR2.out HB4.out) i (by omega) hit'
            simp only [Int.toNat_natCast] at y0
            generalize rd ts i = y at y0
            obtain ⟨n, en, n1, n2⟩ : ∃ n, (wrap64 (y.tmod 300 + 300)).tmod 300 = n ∧ 0 ≤ n ∧ n < 300 := by
              have a := Int.tmod_lt_of_pos y (show (0 : Int) < 300 by omega)
              have b := Int.lt_tmod_of_pos y (show (0 : Int) < 300 by omega)
              have e : wrap64 (y.tmod 300 + 300) = y.tmod 300 + 300 := by unfold wrap64; omega
              exact ⟨_, rfl, by rw [e]; exact Int.tmod_nonneg _ (by omega), by rw [e]; exact Int.tmod_lt_of_pos _ (by omega)⟩
            go_wp2_with fail
            clear en y0
            go_loopg [9, 12] n.toNat (fun kq v9 v12 wr => ∃ (k l : Int), v12 = .int .i64 k ∧ v9 = .int .i64 l ∧ 0 ≤ k ∧ k ≤ n ∧ k + kq = n ∧ 0 ≤ l ∧ l ≤ 4294967296 ∧ Aside0 (wr.heap[gt]? = some (.cells #[.int .i64 a0, .int .i64 l] 132 (0, 0))) ∧ Aside0 (Below w.heap.size w wr))
            case atStart => exact ⟨0, l2, rfl, rfl, by omega, by omega, by omega, hs0, hs1, HG4, HB4⟩
            case round =>
              clear HG4 HB4 hs0 hs1
              obtain ⟨k, l3, rfl, rfl, hk0, hkn, hkk, hs0, hs1, HG, HB⟩ := hrel
              by_cases hkl : k < n
              · have hle := lft_le hs0 hs1
                have HLF : Aside0 (lft l3 = if 0 < l3 then l3 - 1 else l3) := ⟨rfl⟩
                have HT := Aside0.mk (tick_calls gt a0 l3 w wr HG.out HGE.out HB.out hs0 hs1)
                by_cases hpos : 0 < l3
                · have hb : decide (0 < l3) = true := decide_eq_true hpos
                  have el : l3 - 1 = lft l3 := by rw [HLF.out, if_pos hpos]
                  have ELH := Aside0.mk el
                  go_wp2_with fail
                  refine HT.out.mono ?_
                  rintro e w5 ⟨rfl, hg, hB⟩
                  have HG5 := Aside0.mk hg
                  have HB5 := Aside0.mk hB
                  clear hg hB HG HB HT
                  generalize lft l3 = l4 at HG5 hle ELH ⊢
                  go_wp2_with (go_at_call 33; refine (left_calls gt a0 l4 _ HG5.out).mono ?_; rintro e w' ⟨rfl, rfl⟩)
                  go_roundg (gk - 1)
                  case measure => omega
                  case rel => exact ⟨k + 1, l4, by first | rfl | go_num, by first | rfl | (rw [ELH.out]), by omega, by omega, by omega, by omega, by omega, HG5, HB5⟩
                · have hb : decide (0 < l3) = false := decide_eq_false hpos
                  have hz : l3 = 0 := by omega
                  have el : lft l3 = l3 := by rw [HLF.out, if_neg hpos]
                  rw [el] at HT
                  subst hz
                  clear el hpos HLF hle
                  go_wp2_with fail
                  refine HT.out.mono ?_
                  rintro e w5 ⟨rfl, hg, hB⟩
                  have HG5 := Aside0.mk hg
                  have HB5 := Aside0.mk hB
                  clear hg hB HG HB HT
                  go_wp2_with (go_at_call 33; refine (left_calls gt a0 0 _ HG5.out).mono ?_; rintro e w' ⟨rfl, rfl⟩)
                  go_roundg (gk - 1)
                  case measure => omega
                  case rel => exact ⟨k + 1, 0, by first | rfl | go_num, rfl, by omega, by omega, by omega, by omega, by omega, HG5, HB5⟩
              · go_wp2_with fail
                go_roundg (ds.length - (i + 1))
                case measure => omega
                case rel => exact ⟨i + 1, l3, by go_num, rfl, by omega, hs0, hs1, HG, HB⟩
          · obtain ⟨n, en, n1, n2⟩ : ∃ n : Int, (0 : Int) = n ∧ 0 ≤ n ∧ n < 300 := ⟨0, rfl, by omega, by omega⟩
            clear en n1 n2
            go_wp2_with fail
            go_loopg [9, 12] 0 (fun kq v9 v12 wr => v12 = .int .i64 0 ∧ v9 = .int .i64 l2 ∧ Aside0 (wr.heap[gt]? = some (.cells #[.int .i64 a0, .int .i64 l2] 132 (0, 0))) ∧ Aside0 (Below w.heap.size w wr))
            case atStart => exact ⟨rfl, rfl, HG4, HB4⟩
            case round =>
              clear HG4 HB4
              obtain ⟨rfl, rfl, HG, HB⟩ := hrel
              go_wp2_with fail
              go_roundg (ds.length - (i + 1))
              case measure => omega
              case rel => exact ⟨i + 1, l2, by go_num, rfl, by omega, hs0, hs1, HG, HB⟩
        · have HN := Aside0.mk hlt
          go_wp2_with (go_at_call 33; refine (left_calls gt a0 l _ HG.out).mono ?_; rintro e w' ⟨rfl, rfl⟩)
          go_ret
          exact ⟨by simp, HB.out⟩
end Go.Proofs.Ytcdlccnpbhjgkaa.Tm
