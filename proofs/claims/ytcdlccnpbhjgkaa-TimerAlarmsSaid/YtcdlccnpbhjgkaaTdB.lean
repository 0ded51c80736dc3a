/- TimerDue, walked. -/
import Derived.Test.YtcdlccnpbhjgkaaTdA
import Derived.Test.YtcdlccnpbhjgkaaTaA
import Derived.StillTailTactics
namespace Go.Proofs.Ytcdlccnpbhjgkaa.Ti
open Go.RowKit Go.Maps Go.Proofs.YtcdlccnpbhjgkaaW.PrintWords Go.Proofs.YtcdlccnpbhjgkaaW.PrintLast Go.Proofs.YtcdlccnpbhjgkaaW.PrintMore
open Go.Proofs.Ytcdlccnpbhjgkaa.PTimerAlarms Go.Proofs.Ytcdlccnpbhjgkaa.Mp
set_option linter.unusedVariables false
set_option linter.unusedSimpArgs false

theorem Two.grown {w0 w w1 : World} {H a1 a2 : Nat} {b1 b2 row : Option Nat} {l1 l2 : Q} (h : Two w0 w a1 b1 l1 a2 b2 l2) (hg : w.grownBy w1 row) (hr : ∀ k, row = some k → H ≤ k) (hH : w0.heap.size ≤ H ∧ a1 < H ∧ a2 < H ∧ (∀ k, b1 = some k → k < H) ∧ (∀ k, b2 = some k → k < H)) : Two w0 w1 a1 b1 l1 a2 b2 l2 := by
  obtain ⟨h0, h1, h2, h3, h4⟩ := hH
  refine ⟨h.A.grown hg (fun k hk => ?_), h.B.grown hg (fun k hk => ?_), h.ne, h.n1, h.n2, h.nb⟩
  · have := hr k hk
    exact ⟨by omega, by omega, fun e => by have := h3 k e; omega⟩
  · have := hr k hk
    exact ⟨by omega, by omega, fun e => by have := h4 k e; omega⟩

theorem due_len (now : Int) (l : Q) : (due now l).length ≤ l.length := by
  unfold due
  rw [List.length_map]
  exact (List.takeWhile_prefix _).length_le
theorem rest_len (now : Int) (l : Q) : (rest now l).length ≤ l.length := by
  unfold rest
  exact (List.dropWhile_suffix _).length_le

theorem amod (y : Int) : ∃ n, (wrap64 (y.tmod 100 + 100)).tmod 100 = n ∧ 0 ≤ n ∧ n < 100 := by
  have a := Int.tmod_lt_of_pos y (show (0 : Int) < 100 by omega)
  have b := Int.lt_tmod_of_pos y (show (0 : Int) < 100 by omega)
  have e : wrap64 (y.tmod 100 + 100) = y.tmod 100 + 100 := by unfold wrap64; omega
  exact ⟨_, rfl, by rw [e]; exact Int.tmod_nonneg _ (by omega), by rw [e]; exact Int.tmod_lt_of_pos _ (by omega)⟩

set_option maxHeartbeats 2000000 in
set_option maxRecDepth 100000 in
theorem due_law_calls (A1 : Option Addr) (c1 : Nat) (ats : List Int) (A2 : Option Addr) (c2 : Nat) (asks : List Int) (w : World) (hr1 : (Kd.int .i64).C w A1 ats.length ats) (hc1 : ats.length ≤ c1) (hr2 : (Kd.int .i64).C w A2 asks.length asks) (hc2 : asks.length ≤ c2) :
    Calls Try.prog 7 #[.slice A1 ats.length c1, .slice A2 asks.length c2] w fun e w' => e = .returned (.bool true) ∧ Below w.heap.size w w' := by
  have HR1 := Aside0.mk hr1
  have HR2 := Aside0.mk hr2
  clear hr1 hr2 hc1 hc2
  by_cases hlen : (60 : Int) < ats.length ∨ (60 : Int) < asks.length
  · by_cases h1 : (60 : Int) < ats.length
    · have b1 : decide ((60 : Int) < ats.length) = true := decide_eq_true h1
      clear hlen h1
      go_enter Try.func7, Try.ntmps7
      go_wp2_with fail
      refine (awake_calls _).mono ?_
      rintro e w1 ⟨rfl, hb⟩
      have HB1 := Aside0.mk hb
      clear hb
      go_wp2_with fail
      refine (awake_calls _).mono ?_
      rintro e w2 ⟨rfl, hb⟩
      have HB2 := Aside0.mk (HB1.out.trans (hb.mono HB1.out.size))
      clear hb
      go_wp2_with fail
      go_ret
      exact ⟨rfl, HB2.out⟩
    · have b1 : decide ((60 : Int) < ats.length) = false := decide_eq_false h1
      have b2 : decide ((60 : Int) < asks.length) = true := decide_eq_true (by omega)
      clear hlen h1
      go_enter Try.func7, Try.ntmps7
      go_wp2_with fail
      refine (awake_calls _).mono ?_
      rintro e w1 ⟨rfl, hb⟩
      have HB1 := Aside0.mk hb
      clear hb
      go_wp2_with fail
      refine (awake_calls _).mono ?_
      rintro e w2 ⟨rfl, hb⟩
      have HB2 := Aside0.mk (HB1.out.trans (hb.mono HB1.out.size))
      clear hb
      go_wp2_with fail
      go_ret
      exact ⟨rfl, HB2.out⟩
  · have hl1 : ats.length ≤ 60 := by omega
    have hl2 : asks.length ≤ 60 := by omega
    clear hlen
    go_enter Try.func7, Try.ntmps7
    go_wp2_with fail
    refine (awake_calls _).mono ?_
    rintro e w1 ⟨rfl, hb⟩
    have HB1 := Aside0.mk hb
    clear hb
    have Z1 : (w1.alloc (.cells #[.slice none 0 0] 50)).heap.size = w1.heap.size + 1 := by simp
    have Z2 : ((w1.alloc (.cells #[.slice none 0 0] 50)).alloc (.cells #[.slice none 0 0] 50)).heap.size = w1.heap.size + 2 := by simp
    have B1 : Below w.heap.size w (w1.alloc (.cells #[.slice none 0 0] 50)) := HB1.out.alloc HB1.out.size _
    have B2 : Below w.heap.size w ((w1.alloc (.cells #[.slice none 0 0] 50)).alloc (.cells #[.slice none 0 0] 50)) := B1.alloc B1.size _
    have hs1 := HB1.out.size
    have HT0 : Aside0 (Two w ((w1.alloc (.cells #[.slice none 0 0] 50)).alloc (.cells #[.slice none 0 0] 50)) w1.heap.size none [] (w1.heap.size + 1) none []) := ⟨by
      refine ⟨⟨(AlIs.new w1 w.heap.size hs1).below ((Below.refl _ _).alloc (Nat.le_refl _) _), fun k hk => (by cases hk), hs1, by omega, B2⟩, ⟨?_, fun k hk => (by cases hk), by omega, by omega, B2⟩, by omega, by simp, by simp, fun k hk => (by cases hk)⟩
      have := AlIs.new (w1.alloc (.cells #[.slice none 0 0] 50)) w.heap.size (by omega)
      rw [Z1] at this
      exact this⟩
    clear B1 B2 Z1 Z2 hs1
    go_wp2_with fail
    generalize w1.heap.size = a1 at HT0 ⊢
    go_loopg [7, 8, 9] ats.length (fun kq v7 v8 v9 wr => ∃ (i : Nat) (most : Int) (b1 b2 : Option Nat) (l : Q), v8 = .int .i64 i ∧ v7 = .int .i64 most ∧ i + kq = ats.length ∧ 0 ≤ most ∧ most ≤ 99 ∧ Aside0 (LI i most l) ∧ Aside0 (Two w wr a1 b1 l (a1 + 1) b2 l))
    case atStart => exact ⟨0, 0, none, none, [], rfl, rfl, by omega, by omega, by omega, ⟨⟨rfl, fun a ha => by cases ha⟩⟩, HT0⟩
    case round =>
      clear HT0 HB1
      obtain ⟨i, most, b1, b2, l, rfl, rfl, hi, hm0, hm1, HL, HT⟩ := hrel
      by_cases hlt : i < ats.length
      · have hlt' : (i : Int) < (ats.length : Int) := by omega
        obtain ⟨ad, rfl, x0⟩ := Kd.at_int (Kd.C_below HR1.out HT.out.A.below) i (by omega) hlt'
        simp only [Int.toNat_natCast] at x0
        generalize rd ats i = y at x0
        obtain ⟨t, et, t0, t1⟩ := amod y
        have hll : l.length = i := HL.out.len
        have HLL := Aside0.mk hll
        clear hll
        go_wp2_with fail
        refine (set_lit w wr a1 b1 l t [(i : Int)] HT.out.A (by simp; rw [HLL.out]; omega)).mono ?_
        rintro e w3 ⟨rfl, b1', hA, hT⟩
        have HT3 := Aside0.mk (HT.out.next hA hT)
        clear hA hT HT x0
        go_wp2_with fail
        refine (set_lit w w3 (a1 + 1) b2 l t [(i : Int)] HT3.out.B (by simp; rw [HLL.out]; omega)).mono ?_
        rintro e w4 ⟨rfl, b2', hA, hT⟩
        have HT4 := Aside0.mk ((HT3.out.symm.next hA hT).symm)
        have HL4 := Aside0.mk (HL.out.set (t := t) t0)
        clear hA hT HT3
        go_wp2_with fail
        case inl h =>
          have E : (if most < t then t else most) = t := by split <;> omega
          rw [E] at HL4
          clear E
          go_roundg (gk - 1)
          case measure => omega
          case rel => exact ⟨i + 1, t, b1', b2', _, by go_num, by go_num, by omega, t0, by omega, HL4, HT4⟩
        case inr h =>
          have E : (if most < t then t else most) = most := by split <;> omega
          rw [E] at HL4
          clear E
          go_roundg (gk - 1)
          case measure => omega
          case rel => exact ⟨i + 1, most, b1', b2', _, by go_num, by go_num, by omega, hm0, by omega, HL4, HT4⟩
      · have hie : i = ats.length := by omega
        subst hie
        have HLL := HL.out.len
        have HMEM := Aside0.mk HL.out.mem
        have HLN : Aside0 (l.length = ats.length) := ⟨HLL⟩
        clear HLL HL
        have HH : Aside0 (w.heap.size ≤ wr.heap.size ∧ a1 < wr.heap.size ∧ a1 + 1 < wr.heap.size ∧ (∀ k, b1 = some k → k < wr.heap.size) ∧ (∀ k, b2 = some k → k < wr.heap.size)) := ⟨HT.out.A.below.size, HT.out.A.lt, HT.out.B.lt, fun k hk => (HT.out.A.bo k hk).2, fun k hk => (HT.out.B.bo k hk).2⟩
        have HD0 : Aside0 (due (-1) l = [] ∧ rest (-1) l = l) := ⟨due_none (fun a ha => by have := (HMEM.out a ha).1; omega)⟩
        have HO0 : Aside0 (Outs wr.heap.size wr (.slice none 0 0) [] (.slice none 0 0) []) := ⟨Kd.R_nil _ _ _ _ _, Kd.R_nil _ _ _ _ _, fun k e => by cases e⟩
        have HHE : Aside0 (wr.heap.size ≤ wr.heap.size) := ⟨Nat.le_refl _⟩
        generalize hH : wr.heap.size = H at HH HO0
        rw [hH] at HHE
        replace HHE : Aside0 (H ≤ wr.heap.size) := ⟨by rw [hH]; exact Nat.le_refl _⟩
        clear hH
        go_wp2_with fail
        go_loopg [10, 11, 12, 13, 14] (most + 1).toNat (fun kq v10 v11 v12 v13 v14 wr2 => ∃ (now m : Int) (x1 x2 : List Int), v12 = .int .i64 now ∧ 0 ≤ now ∧ now ≤ most + 1 ∧ now + kq = most + 1 ∧ Aside0 (x1 = due (now - 1) l) ∧ Aside0 (x2 = due m l ∧ m ≤ now - 1 ∧ (now = most + 1 → m = most)) ∧ Aside0 (Two w wr2 a1 b1 (rest (now - 1) l) (a1 + 1) b2 (rest m l)) ∧ Aside0 (Outs H wr2 v10 x1 v11 x2) ∧ Aside0 (H ≤ wr2.heap.size))
        case atStart => exact ⟨0, -1, [], [], rfl, by omega, by omega, by omega, ⟨HD0.out.1.symm⟩, ⟨HD0.out.1.symm, by omega, fun h => by omega⟩, ⟨by rw [show (0 : Int) - 1 = -1 from rfl, HD0.out.2]; exact HT.out⟩, HO0, HHE⟩
        case round =>
          clear HT HO0
          obtain ⟨now, m, x1, x2, rfl, hn0, hn1, hnk, HX1, HX2, HT, HO, HS0⟩ := hrel
          by_cases hle : now ≤ most
          · obtain ⟨A1r, c1r, rfl⟩ := Kd.R_slice HO.out.R1
            obtain ⟨A2r, c2r, rfl⟩ := Kd.R_slice HO.out.R2
            have hb : decide (now ≤ most) = true := decide_eq_true hle
            go_wp2_with fail
            refine (due_lit w wr a1 b1 (rest (now - 1) l) now HT.out.A (by have := rest_len (now - 1) l; have := HLN.out; omega)).mono ?_
            rintro e w3 ⟨v, rfl, hR, hA, hF⟩
            have hcomp := due_rest (m := now - 1) (now := now) (by omega) l
            rw [hcomp.2] at hA
            have HT3 := Aside0.mk (HT.out.next hA ⟨hF, .inl rfl⟩)
            have HO3 := Aside0.mk (HO.out.frS hF (fun k hk => by rcases hk with rfl | hk; exact HH.out.2.1; exact HH.out.2.2.2.1 k hk))
            have HX3 : Aside0 (x1 ++ due now (rest (now - 1) l) = due now l) := ⟨by rw [HX1.out]; exact hcomp.1⟩
            have HS : Aside0 (H ≤ w3.heap.size) := ⟨Nat.le_trans HS0.out hF.size⟩
            have HLL : Aside0 ((x1.length + (due now (rest (now - 1) l)).length) * 8 ≤ 140737488355328) := ⟨by
              have h1 := due_len now (rest (now - 1) l)
              have h2 := rest_len (now - 1) l
              have h3 := due_len (now - 1) l
              have h4 := HLN.out
              rw [HX1.out]
              omega⟩
            obtain ⟨Ad, cd, rfl⟩ := Kd.R_slice hR
            have HC := Aside0.mk (Kd.R_reads' hR).2.2
            generalize due now (rest (now - 1) l) = ys at HX3 HC HLL ⊢
            clear hR hA hF hcomp HT HO HX1
            go_wp2_with ((with_reducible refine gate_builtin (b := .append) (xs := #[.tmp 58, .tmp 60]) rfl ?_); at_builtin; refine Kd.R_append_rows (Kd.int .i64) (w0 := w3) H rfl (.tmp 58) (.tmp 60) 46 3 (.int .i64 0) 8 rfl Try.underlying46 info3 rfl (by decide) (by decide) (.slice A1r x1.length c1r) x1 ys Ad ys.length cd (fun k => H ≤ k) (fun _ => False) rfl rfl ?aO ?aR (fun _ _ h => h) (fun _ hk => hk.elim) ?aF ?aB ?aS ?aL ?_; (case aO => exact HO3.out.R1); (case aR => exact HC.out); (case aF => exact fun q hq => Nat.le_trans HS.out hq); (case aB => exact Below.refl _ _); (case aS => exact HS.out); (case aL => have := HLL.out; omega); intro v5 w5 ho hb5 hg hat; have HO5 := Aside0.mk (HO3.out.grown ho hg hat); have HT5 := Aside0.mk (Two.grown HT3.out hg (fun k hk => HO3.out.R1.1 k hk) HH.out); have HS5 := Aside0.mk (Nat.le_trans HS.out hg.size); clear ho hb5 hg hat)
            have HX5 : Aside0 (x1 ++ ys = due (now + 1 - 1) l) := ⟨by rw [show now + 1 - 1 = now by omega]; exact HX3.out⟩
            generalize x1 ++ ys = x5 at HO5 HX5
            clear HC HLL HS HO3 HT3 HX3 HS0
            go_loopg [13, 14] asks.length (fun kq v13 v14 wr3 => ∃ (j : Nat) (sd : Bool), v14 = .int .i64 j ∧ v13 = .bool sd ∧ j + kq = asks.length ∧ Aside0 (now = most → sd = true) ∧ Aside0 (wr3 = w5))
            case atStart => exact ⟨0, _, rfl, rfl, by omega, ⟨fun e => by simp [e]⟩, ⟨rfl⟩⟩
            case round =>
              obtain ⟨j, sd, rfl, rfl, hj, HSD, HW⟩ := hrel
              obtain rfl := HW.out
              by_cases hjl : j < asks.length
              · have hjl' : (j : Int) < (asks.length : Int) := by omega
                obtain ⟨ad2, rfl, y0⟩ := Kd.at_int (Kd.C_below HR2.out HT5.out.A.below) j (by omega) hjl'
                simp only [Int.toNat_natCast] at y0
                generalize rd asks j = y at y0
                obtain ⟨t, et, t0, t1⟩ := amod y
                cases sd with
                | true =>
                  go_wp2_with fail
                  go_roundg (gk - 1)
                  case measure => omega
                  case rel => exact ⟨j + 1, true, by go_num, rfl, by omega, ⟨fun _ => rfl⟩, ⟨rfl⟩⟩
                | false =>
                  go_wp2_with fail
                  go_roundg (gk - 1)
                  case measure => omega
                  case rel => exact ⟨j + 1, _, by go_num, rfl, by omega, ⟨fun e => by cases HSD.out e⟩, ⟨rfl⟩⟩
              · cases sd with
                | true =>
                  go_wp2_with fail
                  refine (due_lit w _ (a1 + 1) b2 (rest m l) now HT5.out.B (by have := rest_len m l; have := HLN.out; omega)).mono ?_
                  rintro e w6 ⟨v, rfl, hR, hA, hF⟩
                  have hcomp := due_rest (m := m) (now := now) (by have := HX2.out.2.1; omega) l
                  rw [hcomp.2] at hA
                  have HT6 := Aside0.mk (HT5.out.symm.next hA ⟨hF, .inl rfl⟩).symm
                  have HO6 := Aside0.mk (HO5.out.frS hF (fun k hk => by rcases hk with rfl | hk; exact HH.out.2.2.1; exact HH.out.2.2.2.2 k hk))
                  have HX6 : Aside0 (x2 ++ due now (rest m l) = due now l) := ⟨by rw [HX2.out.1]; exact hcomp.1⟩
                  have HS : Aside0 (H ≤ w6.heap.size) := ⟨Nat.le_trans HS5.out hF.size⟩
                  have HLL : Aside0 ((x2.length + (due now (rest m l)).length) * 8 ≤ 140737488355328) := ⟨by
                    have h1 := due_len now (rest m l)
                    have h2 := rest_len m l
                    have h3 := due_len m l
                    have h4 := HLN.out
                    rw [HX2.out.1]
                    omega⟩
                  obtain ⟨Ad, cd, rfl⟩ := Kd.R_slice hR
                  have HC := Aside0.mk (Kd.R_reads' hR).2.2
                  generalize due now (rest m l) = ys at HX6 HC HLL ⊢
                  clear hR hA hF hcomp HT5 HO5 HX2 HW
                  go_wp2_with ((with_reducible refine gate_builtin (b := .append) (xs := #[.tmp 84, .tmp 86]) rfl ?_); at_builtin; refine Kd.R_append_rows (Kd.int .i64) (w0 := w6) H rfl (.tmp 84) (.tmp 86) 46 3 (.int .i64 0) 8 rfl Try.underlying46 info3 rfl (by decide) (by decide) (.slice A2r x2.length c2r) x2 ys Ad ys.length cd (fun k => H ≤ k) (fun _ => False) rfl rfl ?aO ?aR (fun _ _ h => h) (fun _ hk => hk.elim) ?aF ?aB ?aS ?aL ?_; (case aO => exact HO6.out.R2); (case aR => exact HC.out); (case aF => exact fun q hq => Nat.le_trans HS.out hq); (case aB => exact Below.refl _ _); (case aS => exact HS.out); (case aL => have := HLL.out; omega); intro v7 w7 ho hb5 hg hat; have HO7 := Aside0.mk (HO6.out.symm.grown ho hg hat).symm; have HT7 := Aside0.mk (Two.grown HT6.out hg (fun k hk => HO6.out.R2.1 k hk) HH.out); have HS7 := Aside0.mk (Nat.le_trans HS.out hg.size); clear ho hb5 hg hat)
                  go_roundg (most + 1 - (now + 1)).toNat
                  case measure => omega
                  case rel => exact ⟨now + 1, now, _, _, by go_num, by omega, by omega, by omega, HX5, ⟨HX6.out, by omega, fun e => by omega⟩, ⟨by rw [show now + 1 - 1 = now by omega]; exact HT7.out⟩, HO7, HS7⟩
                | false =>
                  have hnm : ¬ now = most := fun e => by cases HSD.out e
                  have HNM := Aside0.mk hnm
                  clear hnm
                  go_wp2_with fail
                  go_roundg (most + 1 - (now + 1)).toNat
                  case measure => omega
                  case rel => exact ⟨now + 1, m, _, _, by go_num, by omega, by omega, by omega, HX5, ⟨HX2.out.1, by have := HX2.out.2.1; omega, fun e => by have := HNM.out; omega⟩, ⟨by rw [show now + 1 - 1 = now by omega]; exact HT5.out⟩, HO5, HS5⟩
          · have hne : now = most + 1 := by omega
            have hme : m = most := HX2.out.2.2 hne
            have hall := due_all (now := most) (l := l) (fun a ha => (HMEM.out a ha).2.1)
            have hx1 : x1 = l.map (·.f1) := by rw [HX1.out, hne, show most + 1 - 1 = most by omega]; exact hall.1
            have hx2 : x2 = l.map (·.f1) := by rw [HX2.out.1, hme]; exact hall.1
            have hxl : (l.map (·.f1)).length = ats.length := by rw [List.length_map]; exact HLN.out
            rw [hx1, hx2] at HO
            have HT6 : Aside0 (Two w wr a1 b1 [] (a1 + 1) b2 []) := ⟨by
              have := HT.out
              rw [hne, hme, show most + 1 - 1 = most by omega, hall.2] at this
              exact this⟩
            have hb : decide (now ≤ most) = false := decide_eq_false hle
            clear HX1 HX2 HT hx1 hx2 hme hall hne
            generalize l.map (·.f1) = X at HO hxl
            obtain ⟨A1r, c1r, rfl⟩ := Kd.R_slice HO.out.R1
            obtain ⟨A2r, c2r, rfl⟩ := Kd.R_slice HO.out.R2
            have HC1 := Aside0.mk (Kd.R_reads' HO.out.R1).2.2
            have HC2 := Aside0.mk (Kd.R_reads' HO.out.R2).2.2
            rw [hxl] at HC1 HC2 ⊢
            clear hxl HO
            go_wp2_with fail
            refine (alen_calls w.heap.size a1 b1 [] wr HT6.out.A.is).mono ?_
            rintro e w' ⟨rfl, rfl⟩
            go_wp2_with fail
            refine (alen_calls w.heap.size (a1 + 1) b2 [] w' HT6.out.B.is).mono ?_
            rintro e w' ⟨rfl, rfl⟩
            go_wp2_with fail
            go_loopg [15] ats.length (fun kq v15 wr3 => ∃ i : Nat, v15 = .int .i64 i ∧ i + kq = ats.length ∧ Aside0 (Below w'.heap.size w' wr3))
            case atStart => exact ⟨0, rfl, by omega, ⟨Below.refl _ _⟩⟩
            case round =>
              obtain ⟨i, rfl, hi, HBB⟩ := hrel
              by_cases hlt : i < ats.length
              · have hlt' : (i : Int) < (ats.length : Int) := by omega
                obtain ⟨ad1, rfl, z1⟩ := Kd.at_int (Kd.C_below HC1.out HBB.out) i (by omega) hlt'
                obtain ⟨ad2, rfl, z2⟩ := Kd.at_int (Kd.C_below HC2.out HBB.out) i (by omega) hlt'
                simp only [Int.toNat_natCast] at z1 z2
                generalize rd X i = y at z1 z2
                go_wp2_with fail
                go_quiet (fail)
                go_wp2_with fail
                go_roundg (gk - 1)
                case measure => omega
                case rel => exact ⟨i + 1, by go_num, by omega, ⟨by first | exact pw_below_drewN HBB.out _ | exact HBB.out⟩⟩
              · go_wp2_with fail
                go_ret
                exact ⟨rfl, HT6.out.A.below.trans (HBB.out.mono HT6.out.A.below.size)⟩
end Go.Proofs.Ytcdlccnpbhjgkaa.Ti
