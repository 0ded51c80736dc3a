/- HealthApart, walked. -/
import Derived.Test.YtnkpleggmiamdaaHeB
import Derived.StillTailTactics
namespace Go.Proofs.Ytnkpleggmiamdaa.He
open Go.RowKit Go.Maps Go.Proofs.YtnkpleggmiamdaaW.PrintWords Go.Proofs.YtnkpleggmiamdaaW.PrintLast Go.Proofs.YtnkpleggmiamdaaW.PrintMore
open Go.Proofs.Ytnkpleggmiamdaa.PHealthApart Go.Proofs.Ytnkpleggmiamdaa.Mp
set_option linter.unusedVariables false
set_option linter.unusedSimpArgs false

/-! #### struct type 63 -/
structure S63 where
  f0 : Int
  f1 : Int
  f2 : Int
  f3 : Bool
def z63 : S63 := ⟨(0 : Int), (0 : Int), (0 : Int), false⟩
def k63 : Kd S63 := Kd.iso (Kd.pair (Kd.int .i64) (Kd.pair (Kd.int .i64) (Kd.pair (Kd.int .i64) Kd.bool))) (fun x : S63 => (x.f0, x.f1, x.f2, x.f3))
theorem k63_open {w : World} {x : S63} {cs : List Value} (h : k63.K w x cs) : cs = [.int .i64 x.f0, .int .i64 x.f1, .int .i64 x.f2, .bool x.f3] := by
  obtain ⟨_, _, rfl, rfl, ⟨_, _, rfl, rfl, ⟨_, _, rfl, rfl, rfl⟩⟩⟩ := h
  exact rfl
theorem k63_openM {w : World} {base : Nat} {ok : Nat → Prop} {x : S63} {cs : List Value} (h : k63.M w base ok x cs) : cs = [.int .i64 x.f0, .int .i64 x.f1, .int .i64 x.f2, .bool x.f3] := by
  obtain ⟨_, _, rfl, rfl, ⟨_, _, rfl, rfl, ⟨_, _, rfl, rfl, rfl⟩⟩⟩ := h
  exact rfl
theorem k63_mk (w : World) (x : S63)  : k63.K w x [.int .i64 x.f0, .int .i64 x.f1, .int .i64 x.f2, .bool x.f3] := ⟨[.int .i64 x.f0], [.int .i64 x.f1, .int .i64 x.f2, .bool x.f3], rfl, rfl, ⟨[.int .i64 x.f1], [.int .i64 x.f2, .bool x.f3], rfl, rfl, ⟨[.int .i64 x.f2], [.bool x.f3], rfl, rfl, rfl⟩⟩⟩
theorem k63_mkM (w : World) (base : Nat) (ok : Nat → Prop) (x : S63)  : k63.M w base ok x [.int .i64 x.f0, .int .i64 x.f1, .int .i64 x.f2, .bool x.f3] := ⟨[.int .i64 x.f0], [.int .i64 x.f1, .int .i64 x.f2, .bool x.f3], rfl, rfl, ⟨[.int .i64 x.f1], [.int .i64 x.f2, .bool x.f3], rfl, rfl, ⟨[.int .i64 x.f2], [.bool x.f3], rfl, rfl, rfl⟩⟩⟩
def rd_T63 (xs : List S63) (i : Int) : S63 := xs.getD i.toNat z63
theorem at_T63 {w : World} {A : Option Addr} {n : Nat} {xs : List S63} (h : Kd.C k63 w A n xs) (i : Int) (h0 : 0 ≤ i) (h1 : i < n) : ∃ ad , A = some ad ∧ w.cell? (ad.add (i.toNat * 4)) = some (.int .i64 (rd_T63 xs i).f0) ∧ w.cell? ⟨(ad.add (i.toNat * 4)).block, (ad.add (i.toNat * 4)).off + 1, none⟩ = some (.int .i64 (rd_T63 xs i).f1) ∧ w.cell? ⟨(ad.add (i.toNat * 4)).block, (ad.add (i.toNat * 4)).off + 2, none⟩ = some (.int .i64 (rd_T63 xs i).f2) ∧ w.cell? ⟨(ad.add (i.toNat * 4)).block, (ad.add (i.toNat * 4)).off + 3, none⟩ = some (.bool (rd_T63 xs i).f3) := by
  obtain ⟨ad, c, e, _, hK, hc0⟩ := Kd.C_get h z63 i h0 h1
  have hc : ∀ j u, c[j]? = some u → w.cell? (ad.add (i.toNat * 4 + j)) = some u := hc0
  obtain rfl := k63_open hK
  exact ⟨ad, e, hc 0 _ rfl, by rw [← add_field _ _ 1 (by omega)]; exact hc 1 _ rfl, by rw [← add_field _ _ 2 (by omega)]; exact hc 2 _ rfl, by rw [← add_field _ _ 3 (by omega)]; exact hc 3 _ rfl⟩

def mdw (x m : Int) : Int := (wrap64 (x.tmod m + m)).tmod m
theorem mdw_bd (x m : Int) (h1 : 1 ≤ m) (h2 : m ≤ 1000000) : 0 ≤ mdw x m ∧ mdw x m < m := by
  have a := Int.tmod_lt_of_pos x (show 0 < m by omega)
  have b : -m < x.tmod m := by
    have := Int.lt_tmod_of_pos x (show 0 < m by omega)
    omega
  have e : wrap64 (x.tmod m + m) = x.tmod m + m := by unfold wrap64; omega
  unfold mdw
  rw [e]
  exact ⟨Int.tmod_nonneg _ (by omega), Int.tmod_lt_of_pos _ (by omega)⟩
theorem mdw_one (x m : Int) (h1 : 1 ≤ m) (h2 : m ≤ 1000000) : wrap64 (1 + (wrap64 (x.tmod m + m)).tmod m) = 1 + mdw x m := by
  have := mdw_bd x m h1 h2
  show wrap64 (1 + mdw x m) = _
  unfold wrap64; omega

def clF (s : S63) : Int := mdw s.f1 4
theorem cl_wf (s : S63) : (Lit.int .i64 (clF s)).wf = true := by
  have := mdw_bd s.f1 4 (by omega) (by omega)
  simp [Lit.wf, IntKind.min, IntKind.max, IntKind.signed, IntKind.bits, clF]
  omega
def allF (win : Int) (l : List S63) : List (Int × Kn) := l.foldl (fun M s => repF win M (clF s) s.f2 s.f3) []
def ownF (win c : Int) (l : List S63) : List (Int × Kn) × Int := l.foldl (fun p s => if clF s = c ∧ p.2 < s.f2 ∧ s.f2 < 1099511627776 then (repF win p.1 c s.f2 s.f3, s.f2) else p) ([], 0)
theorem take_rd63 {os : List S63} {k : Nat} (h : k < os.length) : os.take (k + 1) = os.take k ++ [rd_T63 os k] := by
  rw [List.take_succ_eq_append_getElem h]
  congr 2
  simp [rd_T63, h]
theorem allF_step (win : Int) {l : List S63} {k : Nat} (h : k < l.length) : allF win (l.take (k + 1)) = repF win (allF win (l.take k)) (clF (rd_T63 l k)) (rd_T63 l k).f2 (rd_T63 l k).f3 := by
  rw [take_rd63 h, allF, List.foldl_append]; rfl
theorem ownF_step (win c : Int) {l : List S63} {k : Nat} (h : k < l.length) : ownF win c (l.take (k + 1)) =
    if clF (rd_T63 l k) = c ∧ (ownF win c (l.take k)).2 < (rd_T63 l k).f2 ∧ (rd_T63 l k).f2 < 1099511627776 then (repF win (ownF win c (l.take k)).1 c (rd_T63 l k).f2 (rd_T63 l k).f3, (rd_T63 l k).f2) else ownF win c (l.take k) := by
  rw [take_rd63 h, ownF, List.foldl_append]; rfl
theorem allF_good {win : Int} (h1 : 1 ≤ win) (h2 : win ≤ 64) (l : List S63) : GoodM (allF win l) := by
  unfold allF
  have : ∀ (l : List S63) (M : List (Int × Kn)), GoodM M → GoodM (l.foldl (fun M s => repF win M (clF s) s.f2 s.f3) M) := by
    intro l
    induction l with
    | nil => intro M h; exact h
    | cons s l ih => intro M h; exact ih _ (h.rep h1 h2 _ _ _)
  exact this l [] GoodM.nil
/-- The law: what one cluster has is as if it were alone. -/
structure Apart (win c : Int) (M : List (Int × Kn)) (o : List (Int × Kn) × Int) : Prop where
  same : knF o.1 c = knF M c
  last : o.2 = (knF M c).1
  pos : 0 ≤ o.2
  good : GoodM o.1
theorem okF_true {c n : Int} (h : 0 ≤ c ∧ c < 4) (h1 : 1 ≤ n) (h2 : n < 1099511627776) : okF c n = true := by unfold okF; simp; omega
theorem Apart.step {win c : Int} (h1 : 1 ≤ win) (h2 : win ≤ 64) (hc : 0 ≤ c ∧ c < 4) {M : List (Int × Kn)} {o : List (Int × Kn) × Int} (h : Apart win c M o) (s : S63) :
    Apart win c (repF win M (clF s) s.f2 s.f3) (if clF s = c ∧ o.2 < s.f2 ∧ s.f2 < 1099511627776 then (repF win o.1 c s.f2 s.f3, s.f2) else o) := by
  by_cases e : clF s = c
  · rw [e]
    by_cases hn : o.2 < s.f2 ∧ s.f2 < 1099511627776
    · rw [if_pos ⟨rfl, hn⟩]
      have p := h.pos
      have hok := okF_true hc (show 1 ≤ s.f2 by omega) hn.2
      have a : repOk M c s.f2 = true := by simp only [repOk, hok, Bool.true_and, decide_eq_true_eq]; rw [← h.last]; exact hn.1
      have b : repOk o.1 c s.f2 = true := by simp only [repOk, hok, Bool.true_and, decide_eq_true_eq]; rw [h.same, ← h.last]; exact hn.1
      refine ⟨?_, ?_, by show 0 ≤ s.f2; omega, h.good.rep h1 h2 _ _ _⟩
      · simp only [repF, a, b, if_true, knF_put_same, h.same]
      · simp only [repF, a, if_true, knF_put_same, newK]
    · rw [if_neg (fun x => hn x.2)]
      have a : repOk M c s.f2 = false := by
        simp only [repOk, Bool.and_eq_false_iff, decide_eq_false_iff_not]
        rw [← h.last]
        by_cases hm : o.2 < s.f2
        · left; unfold okF; simp; omega
        · right; exact hm
      simp only [repF, a, Bool.false_eq_true, if_false]
      exact h
  · rw [if_neg (fun x => e x.1)]
    refine ⟨?_, ?_, h.pos, h.good⟩
    · unfold repF; split
      · rw [knF_put_other _ (Ne.symm e)]; exact h.same
      · exact h.same
    · unfold repF; split
      · rw [knF_put_other _ (Ne.symm e)]; exact h.last
      · exact h.last
theorem apart_all {win c : Int} (h1 : 1 ≤ win) (h2 : win ≤ 64) (hc : 0 ≤ c ∧ c < 4) (l : List S63) : ∀ k, k ≤ l.length → Apart win c (allF win (l.take k)) (ownF win c (l.take k))
  | 0, _ => ⟨rfl, rfl, by simp [ownF], GoodM.nil⟩
  | k + 1, h => by
    rw [allF_step win (by omega), ownF_step win c (by omega)]
    exact (apart_all h1 h2 hc l k (by omega)).step h1 h2 hc _

theorem j_wf {j : Nat} (h : j < 4) : (Lit.int .i64 (j : Int)).wf = true := by
  simp [Lit.wf, IntKind.min, IntKind.max, IntKind.signed, IntKind.bits]
  omega
theorem Apart.ok {win c n : Int} (hc : 0 ≤ c ∧ c < 4) {M : List (Int × Kn)} {o : List (Int × Kn) × Int} (h : Apart win c M o) (h1 : o.2 < n) (h2 : n < 1099511627776) : repOk o.1 c n = true := by
  have p := h.pos
  have hok := okF_true hc (show 1 ≤ n by omega) h2
  simp only [repOk, hok, Bool.true_and, decide_eq_true_eq]; rw [h.same, ← h.last]; exact h1
theorem Apart.sick {win c lim : Int} {M : List (Int × Kn)} {o : List (Int × Kn) × Int} (h : Apart win c M o) : sickF o.1 lim c = sickF M lim c := by
  unfold sickF; rw [h.same]

set_option maxHeartbeats 2000000 in
set_option maxRecDepth 100000 in
theorem law_calls (a0 a1 : Int) (A : Option Addr) (c : Nat) (acts : List S63) (w : World) (hr : Kd.C k63 w A acts.length acts) (hc : acts.length ≤ c) (w0 : (Lit.int .i64 a0).wf = true) (w1 : (Lit.int .i64 a1).wf = true) :
    Calls Try.prog 7 #[.int .i64 a0, .int .i64 a1, .slice A acts.length c] w fun e w' => e = .returned (.bool true) ∧ Below w.heap.size w w' := by
  have HR := Aside0.mk hr
  have HC := Aside0.mk hc
  clear hr hc
  by_cases hlen : (200 : Int) < acts.length
  · go_enter Try.func7, Try.ntmps7
    go_wp2_with fail
    refine (awake_calls _).mono ?_
    rintro e w1 ⟨rfl, hb⟩
    have HB1 := Aside0.mk hb
    clear hb
    go_wp2_with fail
    refine (awake_calls _).mono ?_
    rintro e w2 ⟨rfl, hb⟩
    have HB2 := Aside0.mk (HB1.out.trans (hb.mono HB1.out.size))
    clear hb
    go_wp2_with fail
    go_ret
    exact ⟨rfl, HB2.out⟩
  · obtain ⟨win, e0, b1, b2, e0'⟩ : ∃ win, wrap64 (1 + (wrap64 (a0.tmod 8 + 8)).tmod 8) = win ∧ 1 ≤ win ∧ win ≤ 8 ∧ win = 1 + mdw a0 8 :=
      ⟨_, mdw_one a0 8 (by omega) (by omega), by have := mdw_bd a0 8 (by omega) (by omega); omega, by have := mdw_bd a0 8 (by omega) (by omega); omega, rfl⟩
    obtain ⟨lim, e1, b3, b4⟩ : ∃ lim, wrap64 (1 + (wrap64 (a1.tmod win + win)).tmod win) = lim ∧ 1 ≤ lim ∧ lim ≤ win :=
      ⟨_, mdw_one a1 win (by omega) (by omega), by have := mdw_bd a1 win (by omega) (by omega); omega, by have := mdw_bd a1 win (by omega) (by omega); omega⟩
    clear e0'
    go_enter Try.func7, Try.ntmps7
    go_wp2_with fail
    refine (awake_calls _).mono ?_
    rintro e w1 ⟨rfl, hb⟩
    have HB1 := Aside0.mk hb
    clear hb
    go_wp2_with fail
    refine (new_ok win lim w1 ⟨b1, by omega, b3, b4⟩).mono ?_
    rintro e w2 ⟨p, bm, rfl, hp, hbm, W, hB⟩
    have WI := Aside0.mk W
    have HP := Aside0.mk (show w.heap.size ≤ p ∧ w.heap.size ≤ bm from ⟨Nat.le_trans HB1.out.size hp, Nat.le_trans HB1.out.size hbm⟩)
    have HB := Aside0.mk (HB1.out.trans (hB.mono HB1.out.size))
    clear W hB HB1 hp hbm
    go_wp2_with fail
    clear e0 e1
    go_loopw [11] (fun v11 wr => ∃ k : Nat, v11 = .int .i64 k ∧ k ≤ acts.length ∧ Aside0 (WatchIs wr p bm win lim (allF win (acts.take k))) ∧ Aside0 (Below w.heap.size w wr)) (fun v11 _ => acts.length - (intOf v11).toNat)
    case atStart => exact ⟨0, rfl, Nat.zero_le _, WI, HB⟩
    case round =>
      obtain ⟨k, rfl, hk, WI, HB⟩ := hrel
      by_cases hlt : k < acts.length
      · have hlt' : (k : Int) < (acts.length : Int) := by omega
        obtain ⟨ad, rfl, h0, h1, h2, h3⟩ := at_T63 (Kd.C_below HR.out HB.out) k (by omega) hlt'
        simp only [Int.toNat_natCast] at h0 h1 h2 h3
        go_wp2_with fail
        go_still_tail 19, (by kernel_rfl)
        go_wp2_with fail
        have wc : (Lit.int .i64 (clF (rd_T63 acts k))).wf = true := cl_wf _
        have C := report_calls p bm win lim _ (clF (rd_T63 acts k)) (rd_T63 acts k).f2 (rd_T63 acts k).f3 wr.drew (WI.out.below ((Below.refl _ _).drew)) b1 (by omega) wc (allF_good b1 (by omega) _)
        rw [← allF_step win hlt] at C
        refine C.mono ?_
        clear C wc
        rintro e w3 ⟨rfl, W, hF⟩
        have WI2 := Aside0.mk W
        have HB2 := Aside0.mk (HB.out.drew.trans (hF.to_below HP.out.2 HB.out.size))
        clear W hF WI HB h0 h1 h2 h3
        go_wp2_with fail
        go_roundw
        case rel => exact ⟨k + 1, by go_num, by omega, WI2, HB2⟩
        case measure => simp [intOf]; omega
      · have e : acts.take k = acts := List.take_of_length_le (by omega)
        rw [e] at WI
        clear e hk
        go_wp2_with fail
        go_loopw [12] (fun v12 wr => ∃ j : Nat, v12 = .int .i64 j ∧ j ≤ 4 ∧ Aside0 (WatchIs wr p bm win lim (allF win acts)) ∧ Aside0 (Below w.heap.size w wr)) (fun v12 _ => 4 - (intOf v12).toNat)
        case atStart => exact ⟨0, rfl, by omega, WI, HB⟩
        case round =>
          obtain ⟨j, rfl, hj, WI, HB⟩ := hrel
          by_cases hj4 : j < 4
          · go_wp2_with fail
            refine (new_ok win lim _ ⟨b1, by omega, b3, b4⟩).mono ?_
            rintro e w4 ⟨p2, bm2, rfl, hp, hbm, W, hB⟩
            have HP2 := Aside0.mk (show w.heap.size ≤ p2 ∧ w.heap.size ≤ bm2 ∧ p ≠ bm2 ∧ bm ≠ bm2 from ⟨Nat.le_trans HB.out.size hp, Nat.le_trans HB.out.size hbm, by have := blk_lt WI.out.blk; omega, by have := WI.out.map.lt; omega⟩)
            replace WI := Aside0.mk (WI.out.below hB)
            have WO := Aside0.mk W
            replace HB := Aside0.mk (HB.out.trans (hB.mono HB.out.size))
            clear W hB hp hbm
            go_wp2_with fail
            go_loopw [15, 16] (fun v15 v16 wr => ∃ k : Nat, v16 = .int .i64 k ∧ v15 = .int .i64 (ownF win j (acts.take k)).2 ∧ k ≤ acts.length ∧ Aside0 (WatchIs wr p bm win lim (allF win acts)) ∧ Aside0 (WatchIs wr p2 bm2 win lim (ownF win j (acts.take k)).1) ∧ Aside0 (Below w.heap.size w wr)) (fun _ v16 _ => acts.length - (intOf v16).toNat)
            case atStart => exact ⟨0, rfl, rfl, Nat.zero_le _, WI, WO, HB⟩
            case round =>
              obtain ⟨k, rfl, rfl, hk, WI, WO, HB⟩ := hrel
              by_cases hlt : k < acts.length
              · have hlt' : (k : Int) < (acts.length : Int) := by omega
                obtain ⟨ad, rfl, h0, h1, h2, h3⟩ := at_T63 (Kd.C_below HR.out HB.out) k (by omega) hlt'
                simp only [Int.toNat_natCast] at h0 h1 h2 h3
                have HS := Aside0.mk (ownF_step win j hlt)
                have HAP := Aside0.mk (apart_all b1 (show win ≤ 64 by omega) (show 0 ≤ (j : Int) ∧ (j : Int) < 4 by omega) acts k hk)
                generalize ownF win j (acts.take k) = o at WO HS HAP ⊢
                by_cases e : clF (rd_T63 acts k) = j
                · have he : ((wrap64 ((rd_T63 acts k).f1.tmod 4 + 4)).tmod 4 == (j : Int)) = true := by simpa [clF, mdw] using e
                  have HE := Aside0.mk e
                  clear e
                  by_cases e2 : o.2 < (rd_T63 acts k).f2
                  · have he2 : decide (o.2 < (rd_T63 acts k).f2) = true := decide_eq_true e2
                    have HE2 := Aside0.mk e2
                    clear e2
                    by_cases e3 : (rd_T63 acts k).f2 < 1099511627776
                    · have he3 : decide ((rd_T63 acts k).f2 < 1099511627776) = true := decide_eq_true e3
                      have HE3 := Aside0.mk e3
                      clear e3
                      go_wp2_with fail
                      go_still_tail 12, (by kernel_rfl)
                      go_wp2_with fail
                      have C := report_calls p2 bm2 win lim _ j (rd_T63 acts k).f2 (rd_T63 acts k).f3 wr.drew (WO.out.below ((Below.refl _ _).drew)) b1 (by omega) (j_wf hj4) HAP.out.good
                      rw [HAP.out.ok (by omega) HE2.out HE3.out] at C
                      refine C.mono ?_
                      clear C
                      rintro e w5 ⟨rfl, W, hF⟩
                      rw [if_pos ⟨HE.out, HE2.out, HE3.out⟩] at HS
                      have WO2 : Aside0 (WatchIs w5 p2 bm2 win lim (ownF win j (acts.take (k + 1))).1) := ⟨by rw [HS.out]; dsimp only; exact W⟩
                      have E2 : Aside0 ((ownF win j (acts.take (k + 1))).2 = (rd_T63 acts k).f2) := ⟨by rw [HS.out]⟩
                      have WI2 := Aside0.mk ((WI.out.below ((Below.refl _ _).drew)).fr hF HP2.out.2.2.1 HP2.out.2.2.2)
                      have HB2 := Aside0.mk (HB.out.drew.trans (hF.to_below HP2.out.2.1 HB.out.size))
                      clear W hF WI WO HB h0 h1 h2 h3
                      obtain ⟨ad', e', h0, h1, h2, h3⟩ := at_T63 (Kd.C_below HR.out HB2.out) k (by omega) hlt'
                      cases e'
                      simp only [Int.toNat_natCast] at h0 h1 h2 h3
                      go_wp2_with fail
                      go_roundw
                      case rel => exact ⟨k + 1, by go_num, by rw [E2.out], by omega, WI2, WO2, HB2⟩
                      case measure => simp [intOf]; omega
                    · have he3 : decide ((rd_T63 acts k).f2 < 1099511627776) = false := decide_eq_false e3
                      rw [if_neg (fun x => e3 x.2.2)] at HS
                      clear e3
                      go_wp2_with fail
                      go_roundw
                      case rel => exact ⟨k + 1, by go_num, by rw [HS.out], by omega, WI, by rw [HS.out]; exact WO, HB⟩
                      case measure => simp [intOf]; omega
                  · have he2 : decide (o.2 < (rd_T63 acts k).f2) = false := decide_eq_false e2
                    rw [if_neg (fun x => e2 x.2.1)] at HS
                    clear e2
                    go_wp2_with fail
                    go_roundw
                    case rel => exact ⟨k + 1, by go_num, by rw [HS.out], by omega, WI, by rw [HS.out]; exact WO, HB⟩
                    case measure => simp [intOf]; omega
                · have he : ((wrap64 ((rd_T63 acts k).f1.tmod 4 + 4)).tmod 4 == (j : Int)) = false := by simpa [clF, mdw] using e
                  rw [if_neg (fun x => e x.1)] at HS
                  clear e
                  go_wp2_with fail
                  go_roundw
                  case rel => exact ⟨k + 1, by go_num, by rw [HS.out], by omega, WI, by rw [HS.out]; exact WO, HB⟩
                  case measure => simp [intOf]; omega
              · have e : acts.take k = acts := List.take_of_length_le (by omega)
                have HAP := Aside0.mk (apart_all b1 (show win ≤ 64 by omega) (show 0 ≤ (j : Int) ∧ (j : Int) < 4 by omega) acts k hk)
                rw [e] at WO HAP ⊢
                clear e hk
                generalize ownF win j acts = o at WO HAP ⊢
                go_wp2_with fail
                refine (sick_any p2 bm2 win lim o.1 j _ WO.out).mono ?_
                rintro e w5 ⟨rfl, hB⟩
                rw [HAP.out.sick]
                replace WI := Aside0.mk (WI.out.below hB)
                replace HB := Aside0.mk (HB.out.trans (hB.mono HB.out.size))
                clear hB WO
                go_wp2_with fail
                refine (sick_any p bm win lim (allF win acts) j _ WI.out).mono ?_
                rintro e w6 ⟨rfl, hB⟩
                replace WI := Aside0.mk (WI.out.below hB)
                replace HB := Aside0.mk (HB.out.trans (hB.mono HB.out.size))
                clear hB
                go_wp2_with fail
                refine (last_calls p bm win lim (allF win acts) j _ WI.out).mono ?_
                rintro e w7 ⟨rfl, rfl⟩
                have hl : ((alook (j : Int) (allF win acts)).getD (0, 0, 0)).1 = o.2 := HAP.out.last.symm
                rw [hl]
                clear hl
                go_wp2_with fail
                go_roundw
                case rel => exact ⟨j + 1, by go_num, by omega, WI, HB⟩
                case measure => simp [intOf]; omega
          · go_wp2_with fail
            go_ret
            exact ⟨rfl, HB.out⟩

end Go.Proofs.Ytnkpleggmiamdaa.He
