/- timer: New, and awake. -/
import Derived.Test.YtcdlccnpbhjgkaaTiG
namespace Go.Proofs.Ytcdlccnpbhjgkaa.Ti
open Go.RowKit Go.Maps Go.Proofs.YtcdlccnpbhjgkaaW.PrintWords Go.Proofs.YtcdlccnpbhjgkaaW.PrintLast Go.Proofs.YtcdlccnpbhjgkaaW.PrintMore
open Go.Proofs.Ytcdlccnpbhjgkaa.PTimerAlarms Go.Proofs.Ytcdlccnpbhjgkaa.Mp
set_option linter.unusedVariables false
set_option linter.unusedSimpArgs false

set_option maxRecDepth 100000 in
theorem tnew_calls (a0 a1 r : Int) (w : World) (h : timer_Span.f a0 a1 = some r) (h1 : 1 ≤ a0) (h2 : a0 ≤ 2147483648) :
    Calls Try.prog 32 #[.int .i64 a0, .int .u64 a1] w fun e w' => ∃ gb, e = .returned (.tuple #[.pointer (some ⟨gb, 0, none⟩), .int .i64 0]) ∧ w'.heap[gb]? = some (.cells #[.int .i64 a0, .int .i64 r] 132 (0, 0)) ∧ w.heap.size ≤ gb ∧ Below w.heap.size w w' := by
  have b1 : decide (a0 < 1) = false := decide_eq_false (by omega)
  have b2 : decide (2147483648 < a0) = false := decide_eq_false (by omega)
  have HS := Aside0.mk h
  clear h h1 h2
  go_enter Try.func32, Try.ntmps32
  go_wp2_with fail
  refine (timer_Span.calls a0 a1 r w HS.out).mono ?_
  rintro e w1 ⟨rfl, ⟨m, rfl⟩⟩
  go_wp2_with fail
  go_ret2
  have hB := (Below.refl w.heap.size w)
  exact ⟨w.heap.size, rfl, by first | exact blk_drewN (blk_new w _) m | exact blk_new w _ | simpa using blk_new (w.drewN m) (.cells #[.int .i64 a0, .int .i64 r] 132), Nat.le_refl _, by first | exact pw_below_drewN (hB.alloc (Nat.le_refl _) _) _ | exact (pw_below_drewN hB m).alloc (by simp) _⟩

theorem AlIs.new (w : World) (B : Nat) (hB : B ≤ w.heap.size) : AlIs (w.alloc (.cells #[.slice none 0 0] 50)) B w.heap.size none [] :=
  ⟨_, [], rfl, ⟨blk_new w _, Kd.R_nil _ _ _ _ _⟩, Good.nil⟩

/-- Alarms of a call's own. -/
structure AlB (w0 w : World) (ab : Nat) (bo : Option Nat) (l : Q) : Prop where
  is : AlIs w w0.heap.size ab bo l
  bo : ∀ k, bo = some k → w0.heap.size ≤ k ∧ k < w.heap.size
  ge : w0.heap.size ≤ ab
  lt : ab < w.heap.size
  below : Below w0.heap.size w0 w
theorem AlIs.own_lt {w : World} {B ab : Nat} {bo : Option Nat} {l : Q} (h : AlIs w B ab bo l) : ∀ k, bo = some k → B ≤ k ∧ k < w.heap.size := by
  obtain ⟨v, xs, rfl, hq, _⟩ := h
  exact fun k hk => ⟨Kd.R_base hq.row k hk, Kd.R_lt hq.row k hk⟩
theorem AlB.next {w0 w w1 : World} {ab : Nat} {bo : Option Nat} {l : Q} (h : AlB w0 w ab bo l) (hb : Below w.heap.size w w1) : AlB w0 w1 ab bo l :=
  ⟨h.is.below hb, fun k hk => ⟨(h.bo k hk).1, Nat.lt_of_lt_of_le (h.bo k hk).2 hb.size⟩, h.ge, Nat.lt_of_lt_of_le h.lt hb.size, h.below.trans (hb.mono h.below.size)⟩
theorem set_lit (w0 w : World) (ab : Nat) (bo : Option Nat) (l : Q) (t : Int) (ks : List Int) (h : AlB w0 w ab bo l) (hmx : l.length + ks.length ≤ 100000) :
    Calls Try.prog 29 #[.pointer (some ⟨ab, 0, none⟩), .int .i64 t, .slice (some ⟨w.heap.size, 0, none⟩) ks.length ks.length] (w.alloc (.cells (ks.map (Value.int .i64)).toArray 3)) fun e w' => e = .returned (.tuple #[]) ∧ ∃ bo', AlB w0 w' ab bo' (setF t ks l) ∧ TurnB ab bo bo' w w' := by
  have hb : Below w.heap.size w (w.alloc (.cells (ks.map (Value.int .i64)).toArray 3)) := (Below.refl _ _).alloc (Nat.le_refl _) _
  have h' := h.next hb
  have hC : (Kd.int .i64).C (w.alloc (.cells (ks.map (Value.int .i64)).toArray 3)) (some ⟨w.heap.size, 0, none⟩) ks.length ks :=
    C_of_blk (t := 3) (f := (0, 0)) (xs := ks) (ys := []) (by rw [List.append_nil]; exact blk_new w _) (by omega)
  refine (set_calls w0.heap.size ab bo l t _ ks.length ks _ h'.is h'.below.size hC (fun k hk => ?_) hmx).mono ?_
  · have e : w.heap.size = k := by simpa [AtB] using hk
    subst e
    have := h.lt
    exact ⟨by omega, fun e => by have := (h.bo _ e).2; omega, by simp⟩
  · rintro e w' ⟨rfl, bo', hA, hT⟩
    refine ⟨rfl, bo', ⟨hA, hA.own_lt, h.ge, Nat.lt_of_lt_of_le h'.lt hT.1.size, h'.below.trans (hT.1.to_below (fun k hk => ?_) h'.below.size)⟩, (TurnB.below hb).trans hT⟩
    rcases hk with rfl | hk
    · exact h.ge
    · exact (h.bo k hk).1
theorem due_lit (w0 w : World) (ab : Nat) (bo : Option Nat) (l : Q) (now : Int) (h : AlB w0 w ab bo l) (hmx : l.length ≤ 100000) :
    Calls Try.prog 30 #[.pointer (some ⟨ab, 0, none⟩), .int .i64 now] w fun e w' => ∃ v, e = .returned v ∧ Kd.R (Kd.int .i64) 3 w' w.heap.size (fun k => w.heap.size ≤ k) v (due now l) ∧ AlB w0 w' ab bo (rest now l) ∧ FrS (fun k => k = ab ∨ bo = some k) w w' := by
  refine (due_calls w0.heap.size ab bo l now w h.is h.below.size ⟨h.lt, fun k hk => (h.bo k hk).2⟩ hmx).mono ?_
  rintro e w' ⟨v, rfl, hR, hA, hF⟩
  refine ⟨v, rfl, hR, ⟨hA, hA.own_lt, h.ge, Nat.lt_of_lt_of_le h.lt hF.size, h.below.trans (hF.to_below (fun k hk => ?_) h.below.size)⟩, hF⟩
  rcases hk with rfl | hk
  · exact h.ge
  · exact (h.bo k hk).1

set_option maxHeartbeats 1000000 in
set_option maxRecDepth 100000 in
theorem awake_calls (w : World) : Calls Try.prog 28 #[] w fun e w' => e = .returned (.bool true) ∧ Below w.heap.size w w' := by
  go_enter Try.func28, Try.ntmps28
  go_wp2_with fail
  refine (tnew_calls 2 5 3 w (by decide +kernel) (by omega) (by omega)).mono ?_
  rintro e w1 ⟨gt, rfl, hb, hg, hB⟩
  have HI := Aside0.mk (show IsS132 w w1 gt 2 3 from ⟨hb, hg⟩)
  have HB := Aside0.mk hB
  clear hb hg hB
  go_wp2_with fail
  refine (timer_Timer_Tick.calls gt 2 3 false 2 2 w w1 HI.out HB.out (by decide +kernel)).mono ?_
  rintro e w2 ⟨rfl, hI, hB, _⟩
  replace HI := Aside0.mk hI
  replace HB := Aside0.mk hB
  clear hI hB
  go_wp2_with fail
  refine (timer_Timer_Tick.calls gt 2 2 false 2 1 w w2 HI.out HB.out (by decide +kernel)).mono ?_
  rintro e w3 ⟨rfl, hI, hB, _⟩
  replace HI := Aside0.mk hI
  replace HB := Aside0.mk hB
  clear hI hB
  go_wp2_with fail
  refine (timer_Timer_Tick.calls gt 2 1 true 2 0 w w3 HI.out HB.out (by decide +kernel)).mono ?_
  rintro e w4 ⟨rfl, hI, hB, _⟩
  replace HI := Aside0.mk hI
  replace HB := Aside0.mk hB
  clear hI hB
  go_wp2_with fail
  refine (timer_Timer_Tick.calls gt 2 0 true 2 0 w w4 HI.out HB.out (by decide +kernel)).mono ?_
  rintro e w5 ⟨rfl, hI, hB, _⟩
  replace HB := Aside0.mk hB
  clear hI hB HI
  go_wp2_with fail
  have B0 : Below w.heap.size w (w5.alloc (.cells #[.slice none 0 0] 50)) := HB.out.alloc HB.out.size _
  have Z : (w5.alloc (.cells #[.slice none 0 0] 50)).heap.size = w5.heap.size + 1 := by simp
  have A0 : AlB w (w5.alloc (.cells #[.slice none 0 0] 50)) w5.heap.size none [] := ⟨AlIs.new w5 w.heap.size HB.out.size, fun k hk => by simp at hk, HB.out.size, by omega, B0⟩
  have HA := Aside0.mk A0
  have HZ := Aside0.mk Z
  clear A0 B0 Z HB
  generalize w5.heap.size = ab at HA HZ ⊢
  generalize w5.alloc (.cells #[.slice none 0 0] 50) = w6 at HA HZ ⊢
  rw [← HZ.out]
  refine (set_lit w w6 ab none [] 5 [2, 1] HA.out (by simp)).mono ?_
  rintro e w7 ⟨rfl, bo7, hA, _⟩
  rw [show setF 5 [2, 1] [] = [⟨5, 1⟩, ⟨5, 2⟩] from by decide +kernel] at hA
  replace HA := Aside0.mk hA
  clear hA HZ
  go_wp2_with fail
  refine (set_lit w w7 ab bo7 _ 3 [7] HA.out (by simp)).mono ?_
  rintro e w8 ⟨rfl, bo, hA, _⟩
  rw [show setF 3 [7] [⟨5, 1⟩, ⟨5, 2⟩] = [⟨3, 7⟩, ⟨5, 1⟩, ⟨5, 2⟩] from by decide +kernel] at hA
  replace HA := Aside0.mk hA
  have HAL := Aside0.mk (show ab < w8.heap.size ∧ ∀ k, bo = some k → k < w8.heap.size from ⟨hA.lt, fun k hk => (hA.bo k hk).2⟩)
  clear hA
  go_wp2_with fail
  refine (due_lit w w8 ab bo _ 4 HA.out (by simp)).mono ?_
  rintro e w9 ⟨v9, rfl, hR, hA, _⟩
  rw [show rest 4 [⟨3, 7⟩, ⟨5, 1⟩, ⟨5, 2⟩] = [⟨5, 1⟩, ⟨5, 2⟩] from by decide +kernel] at hA
  rw [show due 4 [⟨3, 7⟩, ⟨5, 1⟩, ⟨5, 2⟩] = [7] from by decide +kernel] at hR
  replace HA := Aside0.mk hA
  have HR9 := Aside0.mk hR
  clear hA hR
  go_wp2_with fail
  refine (due_lit w w9 ab bo _ 5 HA.out (by simp)).mono ?_
  rintro e w10 ⟨v10, rfl, hR, hA, hF⟩
  rw [show due 5 [⟨5, 1⟩, ⟨5, 2⟩] = [1, 2] from by decide +kernel] at hR
  have hR9 := Kd.R_step HR9.out (w1 := w10) (fun k hk hlt => hF.block k hlt (fun e => by
    have := HAL.out
    rcases e with e | e
    · omega
    · have := this.2 k e; omega))
  have HB10 := Aside0.mk hA.below
  obtain ⟨g9, c9, rfl, _⟩ := Kd.R_form hR9 (by simp)
  obtain ⟨_, _, hC9⟩ := Kd.R_reads' hR9
  obtain ⟨g10, c10, rfl, _⟩ := Kd.R_form hR (by simp)
  obtain ⟨_, _, hC10⟩ := Kd.R_reads' hR
  obtain ⟨d9, e9, x9⟩ := Kd.at_int hC9 0 (by omega) (by simp)
  obtain ⟨d10, e10, x10⟩ := Kd.at_int hC10 0 (by omega) (by simp)
  obtain ⟨d10', e10', y10⟩ := Kd.at_int hC10 1 (by omega) (by simp)
  cases e9
  cases e10
  cases e10'
  have x9' : w10.cell? ⟨g9, 0, none⟩ = some (.int .i64 7) := x9
  have x10' : w10.cell? ⟨g10, 0, none⟩ = some (.int .i64 1) := x10
  have y10' : w10.cell? ⟨g10, 1, none⟩ = some (.int .i64 2) := y10
  simp only [List.length_cons, List.length_nil, Nat.zero_add, Nat.reduceAdd]
  clear x9 x10 y10
  clear hR9 hR hA hF HR9 HA HAL hC9 hC10
  go_wp2_with (go_at_call 42; refine (timer_Span.calls 10 37 17 _ (by decide +kernel)).mono ?_; rintro e w11 ⟨rfl, ⟨m, rfl⟩⟩)
  go_ret
  exact ⟨rfl, pw_below_drewN HB10.out m⟩
end Go.Proofs.Ytcdlccnpbhjgkaa.Ti
