/- Kept of the text LeC: what is reached (wip/tools/prune.py). -/
import Derived.Test.YtnkpleggmiamdaaVLeB
namespace Go.Proofs.Ytnkpleggmiamdaa.Le
open Go.RowKit Go.Maps Go.Proofs.YtnkpleggmiamdaaW.PrintWords Go.Proofs.YtnkpleggmiamdaaW.PrintLast Go.Proofs.YtnkpleggmiamdaaW.PrintMore
open Go.Proofs.Ytnkpleggmiamdaa.PLeaseFull Go.Proofs.Ytnkpleggmiamdaa.Mp
set_option linter.unusedVariables false
set_option linter.unusedSimpArgs false
theorem C_moveK {α : Type} {d : Kd α} {A : Option Addr} {n : Nat} {xs : List α} {w w1 : World} (h : d.C w A n xs) (hm : ∀ b, AtB A b → b < w.heap.size → w1.heap[b]? = w.heap[b]?) (hK : ∀ x cs, d.K w x cs → d.K w1 x cs) : d.C w1 A n xs := by
  refine ⟨h.1, h.2.1, fun hn => ?_⟩
  obtain ⟨ad, rfl, hc⟩ := h.2.2 hn
  refine ⟨ad, rfl, fun j p hp => ?_⟩
  obtain ⟨c, hl, hk, hcell⟩ := hc j p hp
  refine ⟨c, hl, hK _ _ hk, fun i u hu => ?_⟩
  have h1 := hcell i u hu
  have hlt := cell_lt h1
  rw [add_block] at hlt
  rw [← h1]
  exact World.cell?_of_block (w := w) (by rw [add_block]; exact hm _ (AtB.some ad) hlt)
theorem C85_fr1 {A : Option Addr} {n : Nat} {xs : List S85} {w w1 : World} {b : Nat} (h : Kd.C k85 w A n xs) (hf : Fr1 w w1 b) (hA : ∀ k, AtB A k → k ≠ b) : Kd.C k85 w1 A n xs :=
  C_moveK h (fun k hk hlt => hf.block k hlt (hA k hk)) (fun _ _ h => h)
def freeF : List S85 → Tab → Nat × Tab
  | [], M => (0, M)
  | x :: r, M => if x.f1 ≠ 0 ∧ get M x.f0 = x.f1 then ((freeF r (adel x.f0 M)).1 + 1, (freeF r (adel x.f0 M)).2) else freeF r M
set_option maxHeartbeats 2000000 in
set_option maxRecDepth 100000 in
theorem free_calls (p bm : Nat) (bud : Int) (M : Tab) (A : Option Addr) (c : Nat) (xs : List S85) (w : World) (h : LedIs w p bm bud M) (hC : Kd.C k85 w A xs.length xs) (hA : ∀ k, AtB A k → k ≠ bm) (hl : xs.length ≤ 100000) :
    Calls Try.prog 51 #[.pointer (some ⟨p, 0, none⟩), .slice A xs.length c] w fun e w' => e = .returned (.int .i64 (freeF xs M).1) ∧ LedIs w' p bm bud (freeF xs M).2 ∧ Fr1 w w' bm := by
  have H := Aside0.mk h
  have HC := Aside0.mk hC
  have HA := Aside0.mk hA
  clear h hC hA
  have hdel := fun w M (h : MapIs w bm (amap (Value.int .i64) M)) k => run_delete (at1 := 3) (tt := 0) (P := Try.prog) (T := 128) Try.underlying128 Try.underlying3 h k
  have HDEL := Aside0.mk hdel
  clear hdel
  go_enter Try.func51, Try.ntmps51
  go_wp2_with fail
  go_loopg [5, 7, 10] xs.length (fun kq v5 v7 v10 wr => ∃ (i n : Nat) (M1 : Tab), v10 = .int .i64 i ∧ v5 = .int .i64 n ∧ i + kq = xs.length ∧ n ≤ i ∧ Aside0 ((n + (freeF (xs.drop i) M1).1, (freeF (xs.drop i) M1).2) = freeF xs M) ∧ Aside0 (LedIs wr p bm bud M1) ∧ Aside0 (Fr1 w wr bm))
  case atStart => exact ⟨0, 0, M, rfl, rfl, by omega, Nat.le_refl _, ⟨by rw [List.drop_zero, Nat.zero_add]⟩, H, ⟨Fr1.refl _ _⟩⟩
  case round =>
    obtain ⟨i, n, M1, rfl, rfl, hi, hn, HE, HL, HF⟩ := hrel
    by_cases hlt : i < xs.length
    · have hlt' : (i : Int) < (xs.length : Int) := by omega
      obtain ⟨ad, rfl, x0, x1⟩ := at_T85 (C85_fr1 HC.out HF.out HA.out) i (by omega) hlt'
      simp only [Int.toNat_natCast] at x0 x1
      have HE2 : Aside0 ((n + (freeF (rd_T85 xs i :: xs.drop (i + 1)) M1).1, (freeF (rd_T85 xs i :: xs.drop (i + 1)) M1).2) = freeF xs M) := ⟨by
        have er : rd_T85 xs (i : Int) = xs[i] := by simp [rd_T85, hlt]
        rw [er, ← List.drop_eq_getElem_cons hlt]
        exact HE.out⟩
      generalize rd_T85 xs i = x at x0 x1 HE2
      obtain ⟨f0, f1⟩ := x
      simp only at x0 x1
      have HLX : Aside0 (LedIs (wr.alloc (.cells #[.int .i64 f0, .int .i64 f1] 85)) p bm bud M1) := ⟨HL.out.below ((Below.refl _ _).alloc (Nat.le_refl _) _)⟩
      have HFX : Aside0 (Fr1 w (wr.alloc (.cells #[.int .i64 f0, .int .i64 f1] 85)) bm) := ⟨HF.out.below ((Below.refl _ _).alloc (Nat.le_refl _) _)⟩
      have HX : Aside0 ((wr.alloc (.cells #[.int .i64 f0, .int .i64 f1] 85)).heap[wr.heap.size]? = some (.cells #[.int .i64 f0, .int .i64 f1] 85 (0, 0))) := ⟨blk_new wr _⟩
      by_cases hz : f1 = 0
      · have hb : (f1 == 0) = true := by simpa using hz
        have HE3 : Aside0 ((n + (freeF (xs.drop (i + 1)) M1).1, (freeF (xs.drop (i + 1)) M1).2) = freeF xs M) := ⟨by
          rw [← HE2.out]
          conv => rhs; unfold freeF
          rw [if_neg (fun h => h.1 hz)]⟩
        subst hz
        go_wp2_with fail
        go_quiet (fail)
        go_wp2_with fail
        go_roundg (gk - 1)
        case measure => omega
        case rel => exact ⟨i + 1, n, M1, by go_num, rfl, by omega, by omega, HE3, ⟨HLX.out.below (pw_below_drewN (Below.refl _ _) _)⟩, ⟨HFX.out.below (pw_below_drewN (Below.refl _ _) _)⟩⟩
      · have hb : (f1 == 0) = false := by simpa using hz
        obtain ⟨c0, c1⟩ := HLX.out.cells
        have hlk := fun m => run_get (HLX.out.map.drewN m) f0
        by_cases hq : get M1 f0 = f1
        · have hqb : (get M1 f0 == f1) = true := by simpa using hq
          have HE3 : Aside0 ((n + 1 + (freeF (xs.drop (i + 1)) (adel f0 M1)).1, (freeF (xs.drop (i + 1)) (adel f0 M1)).2) = freeF xs M) := ⟨by
            rw [← HE2.out]
            conv => rhs; unfold freeF
            rw [if_pos ⟨hz, hq⟩]
            simp only [Prod.mk.injEq, and_true]
            omega⟩
          rw [hq] at hlk
          clear hq hqb
          go_wp2_with fail
          go_quiet (fail)
          go_wp2_with fail
          have HLq : Aside0 (LedIs ((wr.alloc (.cells #[.int .i64 f0, .int .i64 f1] 85)).drewN nq) p bm bud M1) := ⟨HLX.out.below (pw_below_drewN (Below.refl _ _) _)⟩
          have HFq : Aside0 (Fr1 w ((wr.alloc (.cells #[.int .i64 f0, .int .i64 f1] 85)).drewN nq) bm) := ⟨HFX.out.below (pw_below_drewN (Below.refl _ _) _)⟩
          have HXq := Aside0.mk (blk_drewN HX.out nq)
          clear hlk c0 c1 HX HLX HFX
          generalize (wr.alloc (.cells #[.int .i64 f0, .int .i64 f1] 85)).drewN nq = W at HLq HFq HXq ⊢
          obtain ⟨c0, c1⟩ := HLq.out.cells
          have k0 : W.cell? ⟨wr.heap.size, 0, none⟩ = some (.int .i64 f0) := (blk_cell HXq.out 0).trans rfl
          obtain ⟨w5, hu, hm5, hf5, _⟩ := HDEL.out _ M1 HLq.out.map.drew f0
          rw [adel_map] at hm5
          have HL5 := Aside0.mk ((HLq.out.below (Below.refl _ _).drew).put hf5 hm5)
          have HF5 := Aside0.mk (HFq.out.drew.trans hf5)
          clear hm5 hf5
          go_still_tail 6, (by kernel_rfl)
          go_wp2_with fail
          go_roundg (gk - 1)
          case measure => omega
          case rel => exact ⟨i + 1, n + 1, adel f0 M1, by go_num, by go_num, by omega, by omega, HE3, HL5, HF5⟩
        · have hqb : (get M1 f0 == f1) = false := by simpa using hq
          have HE3 : Aside0 ((n + (freeF (xs.drop (i + 1)) M1).1, (freeF (xs.drop (i + 1)) M1).2) = freeF xs M) := ⟨by
            rw [← HE2.out]
            conv => rhs; unfold freeF
            rw [if_neg (fun h => hq h.2)]⟩
          generalize get M1 f0 = gv at hlk hq hqb
          go_wp2_with fail
          go_quiet (fail)
          go_wp2_with fail
          go_roundg (gk - 1)
          case measure => omega
          case rel => exact ⟨i + 1, n, M1, by go_num, rfl, by omega, by omega, HE3, ⟨HLX.out.below (pw_below_drewN (Below.refl _ _) _)⟩, ⟨HFX.out.below (pw_below_drewN (Below.refl _ _) _)⟩⟩
    · have he := HE.out
      rw [List.drop_of_length_le (by omega)] at he
      have HE2 : Aside0 ((n, M1) = freeF xs M) := ⟨he⟩
      clear he
      go_wp2_with fail
      go_ret
      rw [← HE2.out]
      exact ⟨rfl, HL.out, HF.out⟩
end Go.Proofs.Ytnkpleggmiamdaa.Le
