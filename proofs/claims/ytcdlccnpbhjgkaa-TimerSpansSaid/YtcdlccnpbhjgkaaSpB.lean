/- TimerSpans, walked. -/
import Derived.Test.YtcdlccnpbhjgkaaTmA
import Derived.Test.YtcdlccnpbhjgkaaSoA
namespace Go.Proofs.Ytcdlccnpbhjgkaa.Sp
open Go.RowKit Go.Maps Go.Proofs.YtcdlccnpbhjgkaaW.PrintWords Go.Proofs.YtcdlccnpbhjgkaaW.PrintLast Go.Proofs.YtcdlccnpbhjgkaaW.PrintMore
open Go.Proofs.Ytcdlccnpbhjgkaa.PTimerAlarms Go.Proofs.Ytcdlccnpbhjgkaa.Mp
open Go.Proofs.Ytcdlccnpbhjgkaa.Ti (awake_calls info3)
open Go.Proofs.Ytcdlccnpbhjgkaa.So (asc asc_len sort_calls compact_calls compact_nodup)
set_option linter.unusedVariables false
set_option linter.unusedSimpArgs false

theorem cellB0 {w w1 : World} {p : Addr} {v : Value} (hb : Below w.heap.size w w1) (h : w.cell? p = some v) : w1.cell? p = some v := by
  rw [← h]
  exact World.cell?_of_block (w := w) (hb.block _ (cell_lt h))
def spA (a0 x : Int) : Int := if 1 ≤ a0 ∧ a0 ≤ 2147483648 then Tm.sp a0 x else 0
theorem span_f (a0 x : Int) (hx : 0 ≤ x) : timer_Span.f a0 x = some (spA a0 x) := by
  unfold spA
  split
  · next h => exact (Tm.sp_at a0 x h.1 h.2 hx).1
  · next h =>
    unfold timer_Span.f
    by_cases h1 : a0 < 1
    · rw [if_pos h1]
    · rw [if_neg h1, if_pos (by omega)]
theorem span_calls (a0 x : Int) (w : World) (hx : 0 ≤ x) : Calls Try.prog 42 #[.int .i64 a0, .int .u64 x] w fun e w' => e = .returned (.int .i64 (spA a0 x)) ∧ ∃ m, w' = w.drewN m :=
  (timer_Span.calls a0 x _ w (span_f a0 x hx)).mono fun e w' ⟨he, hd⟩ => ⟨he, by obtain ⟨m, hm⟩ := hd; exact ⟨m, hm⟩⟩
set_option maxRecDepth 100000 in
theorem rspan_calls (a0 x : Int) (w : World) (hx : 0 ≤ x) : Calls Try.prog 35 #[.int .i64 a0, .int .u64 x] w fun e w' => e = .returned (.int .i64 (spA a0 x)) ∧ ∃ m, w' = w.drewN m := by
  by_cases h : 1 ≤ a0 ∧ a0 ≤ 2147483648
  · have e : spA a0 x = Tm.sp a0 x := if_pos h
    rw [e]
    exact Tm.rspan_calls a0 x w h.1 h.2 hx
  · have e : spA a0 x = 0 := if_neg h
    rw [e]
    clear e
    by_cases h1 : a0 < 1
    · have b1 : decide (a0 < 1) = true := decide_eq_true h1
      clear h
      go_enter Try.func35, Try.ntmps35
      go_wp2_with fail
      go_ret
      exact ⟨rfl, 0, rfl⟩
    · have b1 : decide (a0 < 1) = false := decide_eq_false h1
      have b2 : decide (2147483648 < a0) = true := decide_eq_true (by omega)
      clear h
      go_enter Try.func35, Try.ntmps35
      go_wp2_with fail
      go_ret
      exact ⟨rfl, 0, rfl⟩

set_option maxHeartbeats 1000000 in
set_option maxRecDepth 100000 in
theorem apart_calls (a0 : Int) (A : Option Addr) (c : Nat) (ds : List Int) (w : World) (hC : (Kd.int .u64).C w A ds.length ds) (hx : ∀ x ∈ ds, 0 ≤ x) (hl : ds.length ≤ 60) :
    Calls Try.prog 43 #[.int .i64 a0, .slice A ds.length c] w fun e w' => e = .returned (.bool (decide (ds.map (spA a0)).Nodup)) ∧ Below w.heap.size w w' := by
  have HC := Aside0.mk hC
  have HX := Aside0.mk hx
  clear hC hx
  go_enter Try.func43, Try.ntmps43
  go_wp2_with fail
  go_loopg [5, 7, 10] ds.length (fun kq v5 v7 v10 wr => ∃ (i : Nat), v10 = .int .i64 i ∧ i + kq = ds.length ∧ Aside0 (Kd.R (Kd.int .i64) 3 wr w.heap.size (fun k => w.heap.size ≤ k) v5 ((ds.take i).map (spA a0))) ∧ Aside0 (Below w.heap.size w wr))
  case atStart => exact ⟨0, rfl, by omega, ⟨Kd.R_nil _ _ _ _ _⟩, ⟨Below.refl _ _⟩⟩
  case round =>
    obtain ⟨i, rfl, hi, HO, HB⟩ := hrel
    by_cases hlt : i < ds.length
    · obtain ⟨A5, c5, rfl⟩ := Kd.R_slice HO.out
      have hlt' : (i : Int) < (ds.length : Int) := by omega
      obtain ⟨ad, rfl, x0⟩ := Kd.at_int (Kd.C_below HC.out HB.out) i (by omega) hlt'
      simp only [Int.toNat_natCast] at x0
      have HT : Aside0 ((ds.take (i + 1)).map (spA a0) = (ds.take i).map (spA a0) ++ [spA a0 (rd ds i)]) := ⟨by
        rw [List.take_succ_eq_append_getElem hlt, List.map_append]
        have : rd ds (i : Int) = ds[i] := by simp [rd, hlt]
        rw [this]
        rfl⟩
      have HYL : Aside0 (((ds.take i).map (spA a0)).length ≤ 100000) := ⟨by rw [List.length_map, List.length_take]; omega⟩
      have HX0 : Aside0 (0 ≤ rd ds (i : Int)) := ⟨HX.out _ (by simp [rd, hlt])⟩
      generalize (ds.take i).map (spA a0) = ys at HO HT HYL ⊢
      generalize rd ds (i : Int) = x at x0 HT HX0
      go_wp2_with fail
      refine (span_calls a0 x wr HX0.out).mono ?_
      rintro e w1 ⟨rfl, m, rfl⟩
      have HO1 : Aside0 (Kd.R (Kd.int .i64) 3 (wr.drewN m) w.heap.size (fun k => w.heap.size ≤ k) (.slice A5 ys.length c5) ys) := ⟨Kd.R_drewN HO.out m⟩
      have HB1 : Aside0 (Below w.heap.size w (wr.drewN m)) := ⟨pw_below_drewN HB.out m⟩
      generalize wr.drewN m = w1 at HO1 HB1 ⊢
      generalize spA a0 x = y at HT ⊢
      clear HO HB x0
      go_wp2_with ((with_reducible refine gate_builtin (b := .append) (xs := #[.tmp 14, .tmp 18]) rfl ?_); at_builtin; refine Kd.R_append (Kd.int .i64) (w0 := w) w.heap.size rfl (.tmp 14) (.tmp 18) 46 3 (.int .i64 0) 8 rfl Try.underlying46 info3 rfl (by decide) (by decide) (.slice A5 ys.length c5) ys y [.int .i64 y] (fun k => w.heap.size ≤ k) (fun _ => False) rfl rfl ?aP (fun _ hk => hk.elim) ?aF ?aO ?aB ?aS ?aL ?_; (case aP => exact rfl); (case aF => exact fun k hk => Nat.le_trans HB1.out.size hk); (case aO => exact HO1.out); (case aB => exact HB1.out); (case aS => exact HB1.out.size); (case aL => have := HYL.out; omega); intro v5 w5 ho hb5 hg hat; have HO5 := Aside0.mk ho; have HB5 := Aside0.mk hb5; clear ho hb5 hg hat)
      rw [← HT.out] at HO5
      go_wp2_with fail
      go_roundg (gk - 1)
      case measure => omega
      case rel => exact ⟨i + 1, by go_num, by omega, HO5, HB5⟩
    · have HE : Aside0 ((ds.take i).map (spA a0) = ds.map (spA a0)) := ⟨by rw [List.take_of_length_le (by omega)]⟩
      rw [HE.out] at HO
      have hxl : (ds.map (spA a0)).length = ds.length := List.length_map _
      have HXL := Aside0.mk hxl
      obtain ⟨xs, hxs⟩ : ∃ xs, ds.map (spA a0) = xs := ⟨_, rfl⟩
      have HDX := Aside0.mk hxs
      rw [hxs] at HO HXL
      clear hxl HE hxs
      go_wp2_with fail
      refine (sort_calls _ xs wr w.heap.size _ HO.out (by rw [HXL.out]; omega)).mono ?_
      rintro e w2 ⟨rfl, hR, hg⟩
      have HR2 := Aside0.mk hR
      have HB2 : Aside0 (Below w.heap.size w w2) := ⟨HB.out.grown hg HB.out.size (fun j hj => HO.out.1 j hj)⟩
      clear hR hg HB
      go_wp2_with fail
      refine (compact_calls _ (asc xs) w2 w.heap.size _ HR2.out (by rw [asc_len, HXL.out]; omega)).mono ?_
      rintro e w3 ⟨A3, c3, rfl, hg⟩
      have HB3 : Aside0 (Below w.heap.size w w3) := ⟨HB2.out.grown hg HB2.out.size (fun j hj => HR2.out.1 j hj)⟩
      have HF : Aside0 ((((Lib.compact (asc xs)).length : Int) == (ds.length : Int)) = decide xs.Nodup) := ⟨by
        rw [← HXL.out, Bool.eq_iff_iff, beq_iff_eq, decide_eq_true_iff, ← compact_nodup xs]
        omega⟩
      clear hg
      go_wp2_with fail
      go_ret
      exact ⟨by rw [HDX.out]; first | rfl | (rw [HF.out]; rfl) | (simp only [← HF.out]; rfl), HB3.out⟩

theorem nodup_snoc {l : List Int} {x : Int} : decide (l ++ [x]).Nodup = (decide l.Nodup && l.all (fun y => y != x)) := by
  rw [Bool.eq_iff_iff, decide_eq_true_iff, Bool.and_eq_true, decide_eq_true_iff, List.all_eq_true, List.nodup_append]
  simp only [bne_iff_ne, ne_eq]
  constructor
  · rintro ⟨h1, _, h3⟩
    exact ⟨h1, fun y hy e => h3 y hy x (by simp) e⟩
  · rintro ⟨h1, h2⟩
    refine ⟨h1, by simp, fun a ha b hb e => ?_⟩
    have : b = x := by simpa using hb
    exact h2 a ha (e.trans this)

set_option maxHeartbeats 2000000 in
set_option maxRecDepth 100000 in
theorem law_calls (a0 : Int) (A : Option Addr) (c : Nat) (ds : List Int) (w : World) (hr : (Kd.int .u64).C w A ds.length ds) (hc : ds.length ≤ c) (ok : ∀ x ∈ ds, (Lit.int .u64 x).wf = true) (w0 : (Lit.int .i64 a0).wf = true) :
    Calls Try.prog 10 #[.int .i64 a0, .slice A ds.length c] w fun e w' => e = .returned (.bool true) ∧ Below w.heap.size w w' := by
  have HC := Aside0.mk hr
  have HX := Aside0.mk (show ∀ x ∈ ds, 0 ≤ x from fun x hx => by have := ok x hx; simp [Lit.wf, IntKind.min, IntKind.max, IntKind.signed, IntKind.bits] at this; omega)
  clear hr hc ok w0
  obtain ⟨xs, hxs⟩ : ∃ xs, ds.map (spA a0) = xs := ⟨_, rfl⟩
  have HXS := Aside0.mk hxs
  have HXN : Aside0 (∀ (k : Nat) (h : k < ds.length), xs.take (k + 1) = xs.take k ++ [spA a0 (rd ds k)]) := ⟨fun k h => by
    rw [← hxs, ← List.map_take, ← List.map_take, List.take_succ_eq_append_getElem h, List.map_append]
    have : rd ds (k : Int) = ds[k] := by simp [rd, h]
    rw [this]
    rfl⟩
  clear hxs
  by_cases h1 : (60 : Int) < ds.length
  · have b1 : decide ((60 : Int) < ds.length) = true := decide_eq_true h1
    clear h1
    go_enter Try.func10, Try.ntmps10
    go_wp2_with fail
    refine (awake_calls _).mono ?_
    rintro e w1 ⟨rfl, hb⟩
    have HB1 := Aside0.mk hb
    clear hb
    go_wp2_with fail
    refine (awake_calls _).mono ?_
    rintro e w2 ⟨rfl, hb⟩
    have HB2 := Aside0.mk (HB1.out.trans (hb.mono HB1.out.size))
    clear hb
    go_wp2_with fail
    go_ret
    exact ⟨rfl, HB2.out⟩
  · have hl : ds.length ≤ 60 := by omega
    clear h1
    go_enter Try.func10, Try.ntmps10
    go_wp2_with fail
    refine (awake_calls _).mono ?_
    rintro e w1 ⟨rfl, hb⟩
    have HB1 := Aside0.mk hb
    clear hb
    go_wp2_with fail
    go_loopg [5, 6, 7, 8] ds.length (fun kq v5 v6 v7 v8 wr => ∃ (i : Nat), v6 = .int .i64 i ∧ v5 = .bool (decide (xs.take i).Nodup) ∧ i + kq = ds.length ∧ Aside0 (Below w.heap.size w wr))
    case atStart => exact ⟨0, rfl, by simp, by omega, HB1⟩
    case round =>
      clear HB1
      obtain ⟨i, rfl, rfl, hi, HB⟩ := hrel
      by_cases hlt : i < ds.length
      · have hlt' : (i : Int) < (ds.length : Int) := by omega
        obtain ⟨ad, rfl, x0⟩ := Kd.at_int (Kd.C_below HC.out HB.out) i (by omega) hlt'
        simp only [Int.toNat_natCast] at x0
        have HT : Aside0 (xs.take (i + 1) = xs.take i ++ [spA a0 (rd ds i)]) := ⟨by
          exact HXN.out i hlt⟩
        have HX0 : Aside0 (0 ≤ rd ds (i : Int)) := ⟨HX.out _ (by simp [rd, hlt])⟩
        generalize rd ds (i : Int) = x at x0 HT HX0
        go_wp2_with fail
        refine (rspan_calls a0 x wr HX0.out).mono ?_
        rintro e w1 ⟨rfl, m, rfl⟩
        have x1 := cellB0 (pw_below_drewN (Below.refl wr.heap.size wr) m) x0
        have HB1 : Aside0 (Below w.heap.size w (wr.drewN m)) := ⟨pw_below_drewN HB.out m⟩
        generalize wr.drewN m = w1 at x1 HB1 ⊢
        clear HB x0
        go_wp2_with fail
        refine (span_calls a0 x w1 HX0.out).mono ?_
        rintro e w2 ⟨rfl, m, rfl⟩
        have HB2 : Aside0 (Below w.heap.size w (w1.drewN m)) := ⟨pw_below_drewN HB1.out m⟩
        generalize w1.drewN m = w2 at HB2 ⊢
        clear HB1 x1
        have HFS : Aside0 (decide ((xs.take i) ++ [spA a0 x]).Nodup = (decide (xs.take i).Nodup && (xs.take i).all (fun y => y != spA a0 x))) := ⟨nodup_snoc⟩
        generalize spA a0 x = y at HT HFS ⊢
        generalize decide (xs.take i).Nodup = fb at HFS ⊢
        go_wp2_with fail
        go_loopg [5, 8] i (fun kq v5 v8 wr => ∃ (k : Nat), v8 = .int .i64 k ∧ v5 = .bool (fb && (xs.take k).all (fun z => z != y)) ∧ k + kq = i ∧ Aside0 (Below w.heap.size w wr))
        case atStart => exact ⟨0, rfl, by simp, by omega, HB2⟩
        case round =>
          clear HB2
          obtain ⟨k, rfl, rfl, hk, HB⟩ := hrel
          by_cases hki : k < i
          · have hki' : (k : Int) < (i : Int) := by omega
            obtain ⟨ad', e', z0⟩ := Kd.at_int (Kd.C_below HC.out HB.out) k (by omega) (by omega)
            cases e'
            simp only [Int.toNat_natCast] at z0
            have hkl : k < ds.length := by omega
            have HTK : Aside0 ((xs.take (k + 1)).all (fun z => z != y) = ((xs.take k).all (fun z => z != y) && (spA a0 (rd ds k) != y))) := ⟨by
              rw [HXN.out k hkl, List.all_append]
              simp⟩
            have HZ0 : Aside0 (0 ≤ rd ds (k : Int)) := ⟨HX.out _ (by simp [rd, hkl])⟩
            generalize rd ds (k : Int) = z at z0 HTK HZ0
            clear hkl
            generalize (xs.take k).all (fun z => z != y) = al at HTK ⊢
            obtain ⟨bb, hbb⟩ : ∃ bb, (fb && al) = bb := ⟨_, rfl⟩
            have HBB : Aside0 ((fb && (al && (spA a0 z != y))) = (bb && (spA a0 z != y))) := ⟨by rw [← hbb, Bool.and_assoc]⟩
            rw [hbb]
            clear hbb
            cases bb with
            | false =>
              go_wp2_with fail
              go_roundg (i - (k + 1))
              case measure => omega
              case rel => exact ⟨k + 1, by go_num, by rw [HTK.out, HBB.out]; rfl, by omega, HB⟩
            | true =>
              go_wp2_with fail
              refine (rspan_calls a0 z wr HZ0.out).mono ?_
              rintro e w3 ⟨rfl, m, rfl⟩
              have HB3 : Aside0 (Below w.heap.size w (wr.drewN m)) := ⟨pw_below_drewN HB.out m⟩
              generalize wr.drewN m = w3 at HB3 ⊢
              generalize spA a0 z = sz at HTK HBB ⊢
              clear HB z0
              go_wp2_with fail
              go_roundg (i - (k + 1))
              case measure => omega
              case rel => exact ⟨k + 1, by go_num, by rw [HTK.out, HBB.out, Bool.true_and], by omega, HB3⟩
          · have hke : k = i := by omega
            have HTA : Aside0 ((fb && (xs.take k).all (fun z => z != y)) = decide (xs.take (i + 1)).Nodup) := ⟨by rw [HT.out, HFS.out, hke]⟩
            rw [HTA.out]
            clear hke
            go_wp2_with fail
            go_roundg (ds.length - (i + 1))
            case measure => omega
            case rel => exact ⟨i + 1, by go_num, rfl, by omega, HB⟩
      · have HE : Aside0 (xs.take i = ds.map (spA a0)) := ⟨by rw [List.take_of_length_le (by rw [← HXS.out, List.length_map]; omega)]; exact HXS.out.symm⟩
        rw [HE.out]
        go_wp2_with fail
        refine (apart_calls a0 A c ds wr (Kd.C_below HC.out HB.out) HX.out hl).mono ?_
        rintro e w2 ⟨rfl, hb⟩
        have HB2 := Aside0.mk (HB.out.trans (hb.mono HB.out.size))
        clear hb HE
        generalize decide (ds.map (spA a0)).Nodup = fb
        go_wp2_with fail
        go_ret
        exact ⟨by first | rfl | simp, HB2.out⟩
end Go.Proofs.Ytcdlccnpbhjgkaa.Sp
