/- Kept of the text WvD: what is reached (wip/tools/prune.py). -/
import Derived.Test.YtkeadpichlgagaaVWvC
namespace Go.Proofs.Ytkeadpichlgagaa.Wv
open Go.RowKit Go.Maps Go.Proofs.YtkeadpichlgagaaW.PrintWords Go.Proofs.YtkeadpichlgagaaW.PrintLast Go.Proofs.YtkeadpichlgagaaW.PrintMore
open Go.Proofs.Ytkeadpichlgagaa.PWaveReady Go.Proofs.Ytkeadpichlgagaa.Mp
set_option linter.unusedVariables false
set_option linter.unusedSimpArgs false
set_option linter.unnecessarySimpa false
theorem Turn.trans {ab : Nat} {v v1 v2 : Value} {w w1 w2 : World} (h : Turn ab v v1 w w1) (h2 : Turn ab v1 v2 w1 w2) : Turn ab v v2 w w2 := by
  refine ⟨⟨h2.1.os.trans h.1.os, h2.1.tape.trans h.1.tape, h2.1.output.trans h.1.output, Nat.le_trans h.1.size h2.1.size, fun k hk hn => ?_⟩, ?_⟩
  · refine (h2.1.block k (Nat.lt_of_lt_of_le hk h.1.size) (fun e => ?_)).trans (h.1.block k hk hn)
    rcases e with e | e
    · exact hn (.inl e)
    · rcases h.2 with h' | ⟨b, h', hb⟩
      · exact hn (.inr (h' ▸ e))
      · rw [h'] at e; injection e with e; omega
  · rcases h2.2 with e | ⟨b, e, hb⟩
    · rcases h.2 with h' | ⟨b, h', hb⟩
      · exact .inl (e.trans h')
      · exact .inr ⟨b, e.trans h', hb⟩
    · exact .inr ⟨b, e, Nat.le_trans h.1.size hb⟩
theorem Turn.own {ab : Nat} {v : Value} {w w1 : World} (h : FrS (fun k => v.ownBlock = some k) w w1) : Turn ab v v w w1 := ⟨h.mono (fun k _ e => .inr e), .inl rfl⟩
theorem Turn.head {ab : Nat} {v v1 : Value} {w w1 : World} (h : FrS (fun k => k = ab) w w1) (e : v1.ownBlock = v.ownBlock) : Turn ab v v1 w w1 := ⟨h.mono (fun k _ e => .inl e), .inl e⟩
theorem Turn.below {ab : Nat} {v : Value} {w w1 : World} (h : Below w.heap.size w w1) : Turn ab v v w w1 := ⟨FrS.of_below h, .inl rfl⟩
set_option maxRecDepth 100000 in
theorem hpush_calls (B ab : Nat) (v : Value) (xs : Q) (x : Int) (w : World) (h : QIs w B ab v xs) (hB : B ≤ w.heap.size) (hmx : xs.length ≤ 100000) :
    Calls Try.prog 109 #[qif ab, .iface 3 (.int .i64 x)] w fun e w' => e = .returned (.tuple #[]) ∧ ∃ v', QIs w' B ab v' (up xs.length (xs ++ [x]) xs.length) ∧ Turn ab v v' w w' := by
  have hm := mPush ⟨ab, 0, none⟩ _ w h.cell
  have hcf := cf189
  have HB := Aside0.mk hB
  have H := Aside0.mk h
  clear h hB
  unfold qif
  go_enter Try.func109, Try.ntmps109
  go_wp2_with fail
  refine (qpush_calls B ab v xs x w H.out HB.out (by omega)).mono ?_
  rintro e w1 ⟨rfl, v1, hI, hT⟩
  have H1 := Aside0.mk hI
  have HT1 := Aside0.mk hT
  clear hI hT hm hcf
  obtain ⟨gb, c, rfl, hne⟩ := H1.out.form (by simp)
  have hm := mLen ⟨ab, 0, none⟩ _ w1 H1.out.cell
  have hcf := cf107
  have hlen : (xs ++ [x]).length = xs.length + 1 := by simp
  rw [hlen] at hm
  go_wp2_with fail
  refine (qlen_calls _ _ _ w1).mono ?_
  rintro e w2 ⟨rfl, rfl⟩
  clear hm hcf
  go_wp2_with fail
  refine (hup_calls B ab _ (xs ++ [x]) xs.length w2 H1.out (by omega)).mono ?_
  rintro e w3 ⟨rfl, hI, hF⟩
  have H3 := Aside0.mk hI
  have HT3 := Aside0.mk (HT1.out.trans (Turn.own hF))
  clear hI hF
  go_wp2_with fail
  go_end0
  exact ⟨rfl, _, H3.out, HT3.out⟩
set_option maxRecDepth 100000 in
theorem hpop_calls (B ab : Nat) (v : Value) (xs : Q) (w : World) (h : QIs w B ab v xs) (hp : 0 < xs.length) (hmx : xs.length ≤ 100000) :
    Calls Try.prog 108 #[qif ab] w fun e w' => e = .returned (.iface 3 (.int .i64 (popV xs))) ∧ ∃ v', QIs w' B ab v' (popL xs) ∧ Turn ab v v' w w' ∧ v'.ownBlock = v.ownBlock := by
  obtain ⟨gb, c, rfl, hne⟩ := h.form hp
  obtain ⟨n, hn⟩ : ∃ n, xs.length = n + 1 := ⟨xs.length - 1, by omega⟩
  have hm := mLen ⟨ab, 0, none⟩ _ w h.cell
  have hcf := cf107
  have H := Aside0.mk h
  unfold popV popL qif
  rw [hn, Nat.add_sub_cancel]
  rw [hn] at hm hmx H
  clear h
  have HN := Aside0.mk hn
  clear hn hp
  go_enter Try.func108, Try.ntmps108
  go_wp2_with fail
  refine (qlen_calls _ _ _ w).mono ?_
  rintro e w1 ⟨rfl, rfl⟩
  clear hm hcf
  have hm := mSwap ⟨ab, 0, none⟩ _ w1 H.out.cell
  have hcf := cf187
  go_wp2_with fail
  refine (qswap_calls B gb (n + 1) c xs 0 n w1 H.out.row (by omega) (by omega)).mono ?_
  rintro e w2 ⟨rfl, hR, hF⟩
  have H2 : Aside0 (QIs w2 B ab (.slice (some ⟨gb, 0, none⟩) (n + 1) c) (sw xs 0 n)) := ⟨hF.blk H.out.blk (Ne.symm hne), hR⟩
  have HT2 : Aside0 (Turn ab (.slice (some ⟨gb, 0, none⟩) (n + 1) c) (.slice (some ⟨gb, 0, none⟩) (n + 1) c) w1 w2) := ⟨Turn.own (hF.mono (fun k _ e => by subst e; rfl))⟩
  clear hR hF hm hcf
  go_wp2_with fail
  refine (hdown_calls B ab _ (sw xs 0 n) 0 n w2 H2.out (by rw [sw_length, HN.out]; omega) (by rw [sw_length, HN.out]; omega) (by rw [sw_length, HN.out]; omega)).mono ?_
  rintro e w3 ⟨rfl, hI, hF⟩
  have H3 := Aside0.mk hI
  have HT3 := Aside0.mk (HT2.out.trans (Turn.own hF))
  clear hI hF
  generalize hys : (dn n (sw xs 0 n) 0 n).1 = ys at H3 ⊢
  have HL : Aside0 (ys.length = n + 1) := ⟨by rw [← hys, dn_length, sw_length, HN.out]⟩
  have HY := Aside0.mk hys
  clear hys
  have hm := mPop ⟨ab, 0, none⟩ _ w3 H3.out.cell
  have hcf := cf188
  go_wp2_with fail
  refine (qpop_calls B ab _ ys w3 H3.out (by rw [HL.out]; omega) (by rw [HL.out]; omega)).mono ?_
  rintro e w4 ⟨rfl, v4, hI, hv, hF⟩
  rw [HL.out, Nat.add_sub_cancel] at hI
  have H4 := Aside0.mk hI
  have HT4 := Aside0.mk (HT3.out.trans (Turn.head hF hv))
  have HV4 := Aside0.mk hv
  have e1 : ys.length - 1 = n := by rw [HL.out]; rfl
  rw [e1]
  clear hI hF hv e1
  go_wp2_with fail
  go_ret
  rw [HY.out]
  exact ⟨rfl, v4, H4.out, HT4.out, HV4.out⟩
end Go.Proofs.Ytkeadpichlgagaa.Wv
