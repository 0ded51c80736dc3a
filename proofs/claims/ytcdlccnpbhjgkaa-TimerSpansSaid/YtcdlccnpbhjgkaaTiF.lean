/- timer: Set, Clear, Due of alarms, against the sorted list of them. -/
import Derived.Test.YtcdlccnpbhjgkaaTiE
namespace Go.Proofs.Ytcdlccnpbhjgkaa.Ti
open Go.RowKit Go.Maps Go.Proofs.YtcdlccnpbhjgkaaW.PrintWords Go.Proofs.YtcdlccnpbhjgkaaW.PrintLast Go.Proofs.YtcdlccnpbhjgkaaW.PrintMore
open Go.Proofs.Ytcdlccnpbhjgkaa.PTimerAlarms Go.Proofs.Ytcdlccnpbhjgkaa.Mp
set_option linter.unusedVariables false
set_option linter.unusedSimpArgs false

/-- The alarms at block ab, their row at bo: the list l. -/
structure AlIs (w : World) (B ab : Nat) (bo : Option Nat) (l : Q) : Prop where
  ex : ∃ v xs, v.ownBlock = bo ∧ QIs w B ab v xs ∧ Good xs l
def TurnB (ab : Nat) (bo bo' : Option Nat) (w w' : World) : Prop := FrS (fun k => k = ab ∨ bo = some k) w w' ∧ (bo' = bo ∨ ∃ b, bo' = some b ∧ w.heap.size ≤ b)
theorem TurnB.trans {ab : Nat} {b0 b1 b2 : Option Nat} {w w1 w2 : World} (h : TurnB ab b0 b1 w w1) (h2 : TurnB ab b1 b2 w1 w2) : TurnB ab b0 b2 w w2 := by
  refine ⟨⟨h2.1.os.trans h.1.os, h2.1.tape.trans h.1.tape, h2.1.output.trans h.1.output, Nat.le_trans h.1.size h2.1.size, fun k hk hn => ?_⟩, ?_⟩
  · refine (h2.1.block k (Nat.lt_of_lt_of_le hk h.1.size) (fun e => ?_)).trans (h.1.block k hk hn)
    rcases e with e | e
    · exact hn (.inl e)
    · rcases h.2 with h' | ⟨b, h', hb⟩
      · exact hn (.inr (h' ▸ e))
      · rw [h'] at e; injection e with e; omega
  · rcases h2.2 with e | ⟨b, e, hb⟩
    · rcases h.2 with h' | ⟨b, h', hb⟩
      · exact .inl (e.trans h')
      · exact .inr ⟨b, e.trans h', hb⟩
    · exact .inr ⟨b, e, Nat.le_trans h.1.size hb⟩
theorem TurnB.of {ab : Nat} {v v' : Value} {w w' : World} (h : Turn ab v v' w w') : TurnB ab v.ownBlock v'.ownBlock w w' := h
theorem TurnB.below {ab : Nat} {bo : Option Nat} {w w1 : World} (h : Below w.heap.size w w1) : TurnB ab bo bo w w1 := ⟨FrS.of_below h, .inl rfl⟩
theorem AlIs.below {w w1 : World} {B ab : Nat} {bo : Option Nat} {l : Q} (h : AlIs w B ab bo l) (hb : Below w.heap.size w w1) : AlIs w1 B ab bo l := by
  obtain ⟨v, xs, e, hq, hg⟩ := h
  exact ⟨v, xs, e, hq.below hb, hg⟩

theorem without_id {k : Int} {l : Q} (h : k ∉ l.map (·.f1)) : without k l = l := by
  unfold without
  refine List.filter_eq_self.2 (fun a ha => ?_)
  simp only [decide_eq_true_eq]
  intro e
  exact h (e ▸ List.mem_map_of_mem ha)
def set1 (t k : Int) (l : Q) : Q := ins ⟨t, k⟩ (without k l)
def setF (t : Int) (ks : List Int) (l : Q) : Q := ks.foldl (fun l k => set1 t k l) l
theorem set1_length (t k : Int) (l : Q) : (set1 t k l).length ≤ l.length + 1 := by
  unfold set1
  rw [(ins_perm _ _).length_eq, List.length_cons]
  have : (without k l).length ≤ l.length := List.length_filter_le _ _
  omega

theorem QR.put0 {w : World} {B gb n c : Nat} {xs : Q} (h : QR w B (.slice (some ⟨gb, 0, none⟩) n c) xs) {i : Nat} (hi : i < n) (t : Int) :
    QR (w.setCell ⟨gb, i * 2, none⟩ (.int .i64 t)) B (.slice (some ⟨gb, 0, none⟩) n c) (xs.set i ⟨t, (g xs i).f1⟩) := by
  obtain ⟨cs, hl, hM, hc, hf⟩ := Kd.R_elem h z126 (i : Int) (by omega) (by omega)
  have e0 := k126_openM hM
  have := (Kd.R_seg h (i : Int) (by omega) (by omega) (seg := [.int .i64 t]) (j := 0) (x' := ⟨t, (g xs i).f1⟩) (okp := fun k => True ∧ k ≠ gb) hl hc (by simp [show k126.sz = 2 from rfl])
    (by
      rw [e0]
      exact k126_mkM _ _ _ _) (fun k hk => hk)).1
  rw [Int.toNat_natCast] at this
  exact this

set_option maxHeartbeats 1000000 in
set_option maxRecDepth 100000 in
theorem set_calls (B ab : Nat) (bo : Option Nat) (l : Q) (t : Int) (A : Option Addr) (c : Nat) (ks : List Int) (w : World) (h : AlIs w B ab bo l) (hB : B ≤ w.heap.size) (hC : (Kd.int .i64).C w A ks.length ks) (hA : ∀ k, AtB A k → k ≠ ab ∧ bo ≠ some k ∧ k < w.heap.size) (hmx : l.length + ks.length ≤ 100000) :
    Calls Try.prog 29 #[.pointer (some ⟨ab, 0, none⟩), .int .i64 t, .slice A ks.length c] w fun e w' => e = .returned (.tuple #[]) ∧ ∃ bo', AlIs w' B ab bo' (setF t ks l) ∧ TurnB ab bo bo' w w' := by
  have H := Aside0.mk h
  have HB := Aside0.mk hB
  have HC := Aside0.mk hC
  have HA := Aside0.mk hA
  clear h hB hC hA
  go_enter Try.func29, Try.ntmps29
  go_wp2_with fail
  go_loopg [7, 8, 11] ks.length (fun kq v7 v8 v11 wr => ∃ (i : Nat) (bo1 : Option Nat) (l1 : Q), v11 = .int .i64 i ∧ i + kq = ks.length ∧ l1.length ≤ l.length + i ∧ Aside0 (setF t (ks.drop i) l1 = setF t ks l) ∧ Aside0 (AlIs wr B ab bo1 l1) ∧ Aside0 (TurnB ab bo bo1 w wr))
  case atStart => exact ⟨0, bo, l, rfl, by omega, by omega, ⟨rfl⟩, H, ⟨TurnB.below (Below.refl _ _)⟩⟩
  case round =>
    obtain ⟨i, bo1, l1, rfl, hi, hl1, HS, HI, HT⟩ := hrel
    by_cases hlt : i < ks.length
    · have hlt' : (i : Int) < (ks.length : Int) := by omega
      have hCr := C_move (d := Kd.int .i64) HC.out (w1 := wr) (fun b hb hlt => HT.out.1.block b hlt (fun e => by have := HA.out b hb; rcases e with e | e; exact this.1 e; exact this.2.1 e))
      obtain ⟨ad, rfl, x0⟩ := Kd.at_int hCr i (by omega) hlt'
      simp only [Int.toNat_natCast] at x0
      have HS2 : Aside0 (setF t (ks.drop (i + 1)) (set1 t (rd ks i) l1) = setF t ks l) := ⟨by
        rw [← HS.out, List.drop_eq_getElem_cons hlt]
        have : rd ks (i : Int) = ks[i] := by simp [rd, hlt]
        rw [this]; rfl⟩
      generalize rd ks (i : Int) = k at x0 HS2
      obtain ⟨v1, xs1, hv1, hQ, hG⟩ := HI.out
      have HQ := Aside0.mk hQ
      have HG := Aside0.mk hG
      have hxl : xs1.length ≤ 100000 := by rw [hG.perm.length_eq]; omega
      subst hv1
      clear hQ hG HI hCr
      go_wp2_with fail
      refine (find_calls B ab v1 xs1 k wr HQ.out).mono ?_
      rintro e w2 ⟨rfl, hB2⟩
      replace HQ := Aside0.mk (HQ.out.below hB2)
      replace HT := Aside0.mk (HT.out.trans (TurnB.below hB2))
      clear hB2 x0
      cases hf : findL k xs1 0 with
      | some j =>
        obtain ⟨_, hj, hjk⟩ := findL_some hf
        rw [Nat.zero_add] at hj
        rw [Nat.sub_zero] at hjk
        rw [show fidx k xs1 = (j : Int) from by unfold fidx; rw [hf]]
        subst hjk
        clear hf
        obtain ⟨gb, cc, rfl, hne⟩ := HQ.out.form (by omega)
        have c0 := HQ.out.cell
        obtain ⟨y0, y1, hfz⟩ := HQ.out.row.elem hj
        have HQ3 : Aside0 (QIs (w2.setCell ⟨gb, j * 2, none⟩ (.int .i64 t)) B ab (.slice (some ⟨gb, 0, none⟩) xs1.length cc) (xs1.set j ⟨t, (g xs1 j).f1⟩)) :=
          ⟨blk_far HQ.out.blk (p := ⟨gb, j * 2, none⟩) (Ne.symm hne) _, HQ.out.row.put0 hj t⟩
        have HT3 : Aside0 (TurnB ab bo (some gb) w (w2.setCell ⟨gb, j * 2, none⟩ (.int .i64 t))) :=
          ⟨HT.out.trans ⟨(FrS.set1 w2 gb (j * 2) (.int .i64 t)).mono (fun k _ e => .inr (by rw [e]; rfl)), .inl rfl⟩⟩
        go_wp2_with fail
        refine (hfix_calls B ab _ (xs1.set j ⟨t, (g xs1 j).f1⟩) j _ HQ3.out (by simpa using hj) (by simpa using hxl)).mono ?_
        rintro e w4 ⟨rfl, hQ4, hT4⟩
        have HI4 : Aside0 (AlIs w4 B ab (some gb) (set1 t (g xs1 j).f1 l1)) := ⟨_, _, rfl, hQ4, HG.out.fix hj t⟩
        have HT4 : Aside0 (TurnB ab bo (some gb) w w4) := ⟨HT3.out.trans (TurnB.of hT4)⟩
        have hls := set1_length t (g xs1 j).f1 l1
        clear hQ4 hT4 HQ3 HT3 HQ HT c0 y0 y1 hfz
        generalize (g xs1 j).f1 = k at HI4 HS2 hls ⊢
        go_wp2_with fail
        go_roundg (gk - 1)
        case measure => omega
        case rel => exact ⟨i + 1, _, _, by go_num, by omega, by omega, HS2, HI4, HT4⟩
      | none =>
        rw [show fidx k xs1 = -1 from by unfold fidx; rw [hf]]
        have hnk := findL_none hf
        have HNK := Aside0.mk (show k ∉ l1.map (·.f1) from fun h => hnk (((HG.out.perm.map (·.f1)).mem_iff).2 h))
        clear hf hnk
        go_wp2_with fail
        refine (hpush_calls B ab v1 xs1 ⟨t, k⟩ w2 HQ.out (Nat.le_trans HB.out HT.out.1.size) hxl).mono ?_
        rintro e w4 ⟨rfl, v4, hQ4, hT4⟩
        have HI4 : Aside0 (AlIs w4 B ab v4.ownBlock (set1 t k l1)) := ⟨_, _, rfl, hQ4, by
          unfold set1
          rw [without_id HNK.out]
          exact HG.out.push ⟨t, k⟩ HNK.out _ (Nat.le_refl _)⟩
        have HT4 : Aside0 (TurnB ab bo v4.ownBlock w w4) := ⟨HT.out.trans (TurnB.of hT4)⟩
        have hls := set1_length t k l1
        clear hQ4 hT4 HQ HT
        go_wp2_with fail
        go_roundg (gk - 1)
        case measure => omega
        case rel => exact ⟨i + 1, _, _, by go_num, by omega, by omega, HS2, HI4, HT4⟩
    · go_wp2_with fail
      go_end0
      have hs := HS.out
      rw [List.drop_of_length_le (by omega)] at hs
      exact ⟨rfl, bo1, by rw [← hs]; exact HI.out, HT.out⟩
end Go.Proofs.Ytcdlccnpbhjgkaa.Ti
