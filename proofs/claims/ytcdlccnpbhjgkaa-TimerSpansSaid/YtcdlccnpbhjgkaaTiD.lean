/- timer: heap.Push, heap.Pop, heap.Fix, heap.Remove over the queue. -/
import Derived.Test.YtcdlccnpbhjgkaaTiC
namespace Go.Proofs.Ytcdlccnpbhjgkaa.Ti
open Go.RowKit Go.Maps Go.Proofs.YtcdlccnpbhjgkaaW.PrintWords Go.Proofs.YtcdlccnpbhjgkaaW.PrintLast Go.Proofs.YtcdlccnpbhjgkaaW.PrintMore
open Go.Proofs.Ytcdlccnpbhjgkaa.PTimerAlarms Go.Proofs.Ytcdlccnpbhjgkaa.Mp
set_option linter.unusedVariables false
set_option linter.unusedSimpArgs false

theorem Turn.trans {ab : Nat} {v v1 v2 : Value} {w w1 w2 : World} (h : Turn ab v v1 w w1) (h2 : Turn ab v1 v2 w1 w2) : Turn ab v v2 w w2 := by
  refine ⟨⟨h2.1.os.trans h.1.os, h2.1.tape.trans h.1.tape, h2.1.output.trans h.1.output, Nat.le_trans h.1.size h2.1.size, fun k hk hn => ?_⟩, ?_⟩
  · refine (h2.1.block k (Nat.lt_of_lt_of_le hk h.1.size) (fun e => ?_)).trans (h.1.block k hk hn)
    rcases e with e | e
    · exact hn (.inl e)
    · rcases h.2 with h' | ⟨b, h', hb⟩
      · exact hn (.inr (h' ▸ e))
      · rw [h'] at e; injection e with e; omega
  · rcases h2.2 with e | ⟨b, e, hb⟩
    · rcases h.2 with h' | ⟨b, h', hb⟩
      · exact .inl (e.trans h')
      · exact .inr ⟨b, e.trans h', hb⟩
    · exact .inr ⟨b, e, Nat.le_trans h.1.size hb⟩
theorem Turn.own {ab : Nat} {v : Value} {w w1 : World} (h : FrS (fun k => v.ownBlock = some k) w w1) : Turn ab v v w w1 := ⟨h.mono (fun k _ e => .inr e), .inl rfl⟩
theorem Turn.head {ab : Nat} {v v1 : Value} {w w1 : World} (h : FrS (fun k => k = ab) w w1) (e : v1.ownBlock = v.ownBlock) : Turn ab v v1 w w1 := ⟨h.mono (fun k _ e => .inl e), .inl e⟩
theorem Turn.below {ab : Nat} {v : Value} {w w1 : World} (h : Below w.heap.size w w1) : Turn ab v v w w1 := ⟨FrS.of_below h, .inl rfl⟩

/-- Fuel enough is fuel enough. -/
theorem up_fuel : ∀ (f f' : Nat) (xs : Q) (j : Nat), j ≤ f → j ≤ f' → up f xs j = up f' xs j
  | 0, f', xs, j, h, _ => by
    obtain rfl : j = 0 := by omega
    cases f' <;> simp [up, par]
  | f + 1, 0, xs, j, _, h => by
    obtain rfl : j = 0 := by omega
    simp [up, par]
  | f + 1, f' + 1, xs, j, h, h' => by
    rw [up_succ, up_succ]
    by_cases hp : par j = j
    · rw [if_pos hp, if_pos hp]
    · rw [if_neg hp, if_neg hp]
      have : par j < j := par_lt (by unfold par at hp; omega)
      rw [up_fuel f f' _ _ (by omega) (by omega)]

set_option maxRecDepth 100000 in
theorem hpush_calls (B ab : Nat) (v : Value) (xs : Q) (x : S126) (w : World) (h : QIs w B ab v xs) (hB : B ≤ w.heap.size) (hmx : xs.length ≤ 100000) :
    Calls Try.prog 76 #[qif ab, .iface 126 (al x)] w fun e w' => e = .returned (.tuple #[]) ∧ ∃ v', QIs w' B ab v' (up xs.length (xs ++ [x]) xs.length) ∧ Turn ab v v' w w' := by
  have hm := mPush ⟨ab, 0, none⟩ _ w h.cell
  have hcf := cf145
  have HB := Aside0.mk hB
  have H := Aside0.mk h
  clear h hB
  unfold qif
  go_enter Try.func76, Try.ntmps76
  go_wp2_with fail
  refine (qpush_calls B ab v xs x w H.out HB.out (by omega)).mono ?_
  rintro e w1 ⟨rfl, v1, hI, hT⟩
  have H1 := Aside0.mk hI
  have HT1 := Aside0.mk hT
  clear hI hT hm hcf
  obtain ⟨gb, c, rfl, hne⟩ := H1.out.form (by simp)
  have hm := mLen ⟨ab, 0, none⟩ _ w1 H1.out.cell
  have hcf := cf141
  have hlen : (xs ++ [x]).length = xs.length + 1 := by simp
  rw [hlen] at hm
  go_wp2_with fail
  refine (qlen_calls _ _ _ w1).mono ?_
  rintro e w2 ⟨rfl, rfl⟩
  clear hm hcf
  go_wp2_with fail
  refine (hup_calls B ab _ (xs ++ [x]) xs.length w2 H1.out (by omega)).mono ?_
  rintro e w3 ⟨rfl, hI, hF⟩
  have H3 := Aside0.mk hI
  have HT3 := Aside0.mk (HT1.out.trans (Turn.own hF))
  clear hI hF
  go_wp2_with fail
  go_end0
  exact ⟨rfl, _, H3.out, HT3.out⟩

set_option maxRecDepth 100000 in
theorem hpop_calls (B ab : Nat) (v : Value) (xs : Q) (w : World) (h : QIs w B ab v xs) (hp : 0 < xs.length) (hmx : xs.length ≤ 100000) :
    Calls Try.prog 77 #[qif ab] w fun e w' => e = .returned (.iface 126 (al (popV xs))) ∧ ∃ v', QIs w' B ab v' (popL xs) ∧ Turn ab v v' w w' ∧ v'.ownBlock = v.ownBlock := by
  obtain ⟨gb, c, rfl, hne⟩ := h.form hp
  obtain ⟨n, hn⟩ : ∃ n, xs.length = n + 1 := ⟨xs.length - 1, by omega⟩
  have hm := mLen ⟨ab, 0, none⟩ _ w h.cell
  have hcf := cf141
  have H := Aside0.mk h
  unfold popV popL qif
  rw [hn, Nat.add_sub_cancel]
  rw [hn] at hm hmx H
  clear h
  have HN := Aside0.mk hn
  clear hn hp
  go_enter Try.func77, Try.ntmps77
  go_wp2_with fail
  refine (qlen_calls _ _ _ w).mono ?_
  rintro e w1 ⟨rfl, rfl⟩
  clear hm hcf
  have hm := mSwap ⟨ab, 0, none⟩ _ w1 H.out.cell
  have hcf := cf143
  go_wp2_with fail
  refine (qswap_calls B gb (n + 1) c xs 0 n w1 H.out.row (by omega) (by omega)).mono ?_
  rintro e w2 ⟨rfl, hR, hF⟩
  have H2 : Aside0 (QIs w2 B ab (.slice (some ⟨gb, 0, none⟩) (n + 1) c) (sw xs 0 n)) := ⟨hF.blk H.out.blk (Ne.symm hne), hR⟩
  have HT2 : Aside0 (Turn ab (.slice (some ⟨gb, 0, none⟩) (n + 1) c) (.slice (some ⟨gb, 0, none⟩) (n + 1) c) w1 w2) := ⟨Turn.own (hF.mono (fun k _ e => by subst e; rfl))⟩
  clear hR hF hm hcf
  go_wp2_with fail
  refine (hdown_calls B ab _ (sw xs 0 n) 0 n w2 H2.out (by rw [sw_length, HN.out]; omega) (by rw [sw_length, HN.out]; omega) (by rw [sw_length, HN.out]; omega)).mono ?_
  rintro e w3 ⟨rfl, hI, hF⟩
  have H3 := Aside0.mk hI
  have HT3 := Aside0.mk (HT2.out.trans (Turn.own hF))
  clear hI hF
  generalize hys : (dn n (sw xs 0 n) 0 n).1 = ys at H3 ⊢
  have HL : Aside0 (ys.length = n + 1) := ⟨by rw [← hys, dn_length, sw_length, HN.out]⟩
  have HY := Aside0.mk hys
  clear hys
  have hm := mPop ⟨ab, 0, none⟩ _ w3 H3.out.cell
  have hcf := cf144
  go_wp2_with fail
  refine (qpop_calls B ab _ ys w3 H3.out (by rw [HL.out]; omega) (by rw [HL.out]; omega)).mono ?_
  rintro e w4 ⟨rfl, v4, hI, hv, hF⟩
  rw [HL.out, Nat.add_sub_cancel] at hI
  have H4 := Aside0.mk hI
  have HT4 := Aside0.mk (HT3.out.trans (Turn.head hF hv))
  have HV4 := Aside0.mk hv
  have e1 : ys.length - 1 = n := by rw [HL.out]; rfl
  rw [e1]
  clear hI hF hv e1
  go_wp2_with fail
  go_ret
  rw [HY.out]
  exact ⟨rfl, v4, H4.out, HT4.out, HV4.out⟩

set_option maxRecDepth 100000 in
theorem hfix_calls (B ab : Nat) (v : Value) (xs : Q) (i : Nat) (w : World) (h : QIs w B ab v xs) (hi : i < xs.length) (hmx : xs.length ≤ 100000) :
    Calls Try.prog 75 #[qif ab, .int .i64 i] w fun e w' => e = .returned (.tuple #[]) ∧ QIs w' B ab v (fixL xs i) ∧ Turn ab v v w w' := by
  obtain ⟨gb, c, rfl, hne⟩ := h.form (by omega)
  have hm := mLen ⟨ab, 0, none⟩ _ w h.cell
  have hcf := cf141
  have H := Aside0.mk h
  unfold qif
  clear h
  go_enter Try.func75, Try.ntmps75
  go_wp2_with fail
  refine (qlen_calls _ _ _ w).mono ?_
  rintro e w1 ⟨rfl, rfl⟩
  clear hm hcf
  go_wp2_with fail
  refine (hdown_calls B ab _ xs i xs.length w1 H.out hi (Nat.le_refl _) (by omega)).mono ?_
  rintro e w2 ⟨rfl, hI, hF⟩
  have HT2 := Aside0.mk (Turn.own (ab := ab) hF)
  have H2 := Aside0.mk hI
  have HL : Aside0 ((dn xs.length xs i xs.length).1.length = xs.length) := ⟨dn_length _ _ _ _⟩
  have HX : Aside0 (fixL xs i = if i < (dn xs.length xs i xs.length).2 then (dn xs.length xs i xs.length).1 else up xs.length (dn xs.length xs i xs.length).1 i) := ⟨rfl⟩
  clear hI hF H
  generalize dn xs.length xs i xs.length = d at HL HX H2 ⊢
  by_cases hl : i < d.2
  · have hb : decide (i < d.2) = true := decide_eq_true hl
    have HE : Aside0 (fixL xs i = d.1) := ⟨by rw [HX.out, if_pos hl]⟩
    clear hl
    go_wp2_with fail
    go_end0
    exact ⟨rfl, by rw [HE.out]; exact H2.out, HT2.out⟩
  · have hb : decide (i < d.2) = false := decide_eq_false hl
    have HE : Aside0 (fixL xs i = up xs.length d.1 i) := ⟨by rw [HX.out, if_neg hl]⟩
    clear hl
    go_wp2_with fail
    refine (hup_calls B ab _ d.1 i w2 H2.out (by rw [HL.out]; exact hi)).mono ?_
    rintro e w3 ⟨rfl, hI, hF⟩
    have H3 := Aside0.mk hI
    have HT3 := Aside0.mk (HT2.out.trans (Turn.own hF))
    clear hI hF
    go_wp2_with fail
    go_end0
    exact ⟨rfl, by rw [HE.out, up_fuel xs.length i d.1 i (by omega) (Nat.le_refl _)]; exact H3.out, HT3.out⟩

set_option maxRecDepth 100000 in
theorem hremove_calls (B ab : Nat) (v : Value) (xs : Q) (i : Nat) (w : World) (h : QIs w B ab v xs) (hi : i < xs.length) (hmx : xs.length ≤ 100000) :
    Calls Try.prog 78 #[qif ab, .int .i64 i] w fun e w' => ∃ v0, e = .returned v0 ∧ ∃ v', QIs w' B ab v' (remL xs i) ∧ Turn ab v v' w w' := by
  obtain ⟨gb, c, rfl, hne⟩ := h.form (by omega)
  obtain ⟨n, hn⟩ : ∃ n, xs.length = n + 1 := ⟨xs.length - 1, by omega⟩
  have hm := mLen ⟨ab, 0, none⟩ _ w h.cell
  have hcf := cf141
  have H := Aside0.mk h
  unfold qif
  rw [hn] at hm hmx H hi
  clear h
  have HN := Aside0.mk hn
  clear hn
  by_cases hni : n = i
  · have hb : ((n : Int) != (i : Int)) = false := by simp [hni]
    have HE : Aside0 (remL xs i = xs.take n) := ⟨by unfold remL; rw [HN.out, Nat.add_sub_cancel, if_pos hni]⟩
    clear hni
    go_enter Try.func78, Try.ntmps78
    go_wp2_with fail
    refine (qlen_calls _ _ _ w).mono ?_
    rintro e w1 ⟨rfl, rfl⟩
    clear hm hcf
    have hm := mPop ⟨ab, 0, none⟩ _ w1 H.out.cell
    have hcf := cf144
    go_wp2_with fail
    refine (qpop_calls B ab _ xs w1 H.out (by rw [HN.out]; omega) (by rw [HN.out]; omega)).mono ?_
    rintro e w4 ⟨rfl, v4, hI, hv, hF⟩
    rw [HN.out, Nat.add_sub_cancel] at hI
    have H4 := Aside0.mk hI
    have HT4 := Aside0.mk (Turn.head hF hv)
    clear hI hF hv
    go_wp2_with fail
    go_ret
    exact ⟨_, rfl, v4, by rw [HE.out]; exact H4.out, HT4.out⟩
  · have hb : ((n : Int) != (i : Int)) = true := by simp; omega
    have hin : i < n := by omega
    have HX : Aside0 (remL xs i = if i < (dn n (sw xs i n) i n).2 then ((dn n (sw xs i n) i n).1).take n else (up n (dn n (sw xs i n) i n).1 i).take n) := ⟨by unfold remL; rw [HN.out, Nat.add_sub_cancel, if_neg hni]⟩
    clear hni
    go_enter Try.func78, Try.ntmps78
    go_wp2_with fail
    refine (qlen_calls _ _ _ w).mono ?_
    rintro e w1 ⟨rfl, rfl⟩
    clear hm hcf
    have hm := mSwap ⟨ab, 0, none⟩ _ w1 H.out.cell
    have hcf := cf143
    go_wp2_with fail
    refine (qswap_calls B gb (n + 1) c xs i n w1 H.out.row (by omega) (by omega)).mono ?_
    rintro e w2 ⟨rfl, hR, hF⟩
    have H2 : Aside0 (QIs w2 B ab (.slice (some ⟨gb, 0, none⟩) (n + 1) c) (sw xs i n)) := ⟨hF.blk H.out.blk (Ne.symm hne), hR⟩
    have HT2 : Aside0 (Turn ab (.slice (some ⟨gb, 0, none⟩) (n + 1) c) (.slice (some ⟨gb, 0, none⟩) (n + 1) c) w1 w2) := ⟨Turn.own (hF.mono (fun k _ e => by subst e; rfl))⟩
    clear hR hF hm hcf
    go_wp2_with fail
    refine (hdown_calls B ab _ (sw xs i n) i n w2 H2.out (by rw [sw_length, HN.out]; omega) (by rw [sw_length, HN.out]; omega) (by rw [sw_length, HN.out]; omega)).mono ?_
    rintro e w3 ⟨rfl, hI, hF⟩
    have H3 := Aside0.mk hI
    have HT3 := Aside0.mk (HT2.out.trans (Turn.own hF))
    have HL : Aside0 ((dn n (sw xs i n) i n).1.length = n + 1) := ⟨by rw [dn_length, sw_length, HN.out]⟩
    clear hI hF
    generalize dn n (sw xs i n) i n = d at HL HX H3 ⊢
    by_cases hl : i < d.2
    · have hb2 : decide (i < d.2) = true := decide_eq_true hl
      have HE : Aside0 (remL xs i = d.1.take n) := ⟨by rw [HX.out, if_pos hl]⟩
      clear hl
      have hm := mPop ⟨ab, 0, none⟩ _ w3 H3.out.cell
      have hcf := cf144
      go_wp2_with fail
      refine (qpop_calls B ab _ d.1 w3 H3.out (by rw [HL.out]; omega) (by rw [HL.out]; omega)).mono ?_
      rintro e w4 ⟨rfl, v4, hI, hv, hF⟩
      rw [HL.out, Nat.add_sub_cancel] at hI
      have H4 := Aside0.mk hI
      have HT4 := Aside0.mk (HT3.out.trans (Turn.head hF hv))
      clear hI hF hv
      go_wp2_with fail
      go_ret
      exact ⟨_, rfl, v4, by rw [HE.out]; exact H4.out, HT4.out⟩
    · have hb2 : decide (i < d.2) = false := decide_eq_false hl
      have HE : Aside0 (remL xs i = (up i d.1 i).take n) := ⟨by rw [HX.out, if_neg hl, up_fuel n i d.1 i (by omega) (Nat.le_refl _)]⟩
      clear hl
      go_wp2_with fail
      refine (hup_calls B ab _ d.1 i w3 H3.out (by rw [HL.out]; omega)).mono ?_
      rintro e w4 ⟨rfl, hI, hF⟩
      have H4 := Aside0.mk hI
      have HT4 := Aside0.mk (HT3.out.trans (Turn.own hF))
      have HL4 : Aside0 ((up i d.1 i).length = n + 1) := ⟨by rw [up_length, HL.out]⟩
      clear hI hF
      generalize up i d.1 i = ys at HE H4 HL4 ⊢
      have hm := mPop ⟨ab, 0, none⟩ _ w4 H4.out.cell
      have hcf := cf144
      go_wp2_with fail
      refine (qpop_calls B ab _ ys w4 H4.out (by rw [HL4.out]; omega) (by rw [HL4.out]; omega)).mono ?_
      rintro e w5 ⟨rfl, v5, hI, hv, hF⟩
      rw [HL4.out, Nat.add_sub_cancel] at hI
      have H5 := Aside0.mk hI
      have HT5 := Aside0.mk (HT4.out.trans (Turn.head hF hv))
      clear hI hF hv
      go_wp2_with fail
      go_ret
      exact ⟨_, rfl, v5, by rw [HE.out]; exact H5.out, HT5.out⟩
end Go.Proofs.Ytcdlccnpbhjgkaa.Ti
