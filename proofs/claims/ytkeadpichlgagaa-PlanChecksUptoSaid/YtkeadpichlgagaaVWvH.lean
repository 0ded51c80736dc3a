/- Kept of the text WvH: what is reached (wip/tools/prune.py). -/
import Derived.Test.YtkeadpichlgagaaVWvG
import Derived.Test.YtkeadpichlgagaaVWvR
namespace Go.Proofs.Ytkeadpichlgagaa.Wv
open Go.RowKit Go.Maps Go.Proofs.YtkeadpichlgagaaW.PrintWords Go.Proofs.YtkeadpichlgagaaW.PrintLast Go.Proofs.YtkeadpichlgagaaW.PrintMore
open Go.Proofs.Ytkeadpichlgagaa.PWaveReady Go.Proofs.Ytkeadpichlgagaa.Mp
set_option linter.unusedVariables false
set_option linter.unusedSimpArgs false
set_option linter.unnecessarySimpa false
structure Gsz (G : Gr) : Prop where
  n : G.length ≤ 10000
  rows : ∀ y : Nat, y < G.length → (row G (y : Int)).length ≤ 1000000
abbrev GC (w : World) (A : Option Addr) (G : Gr) : Prop := Kd.C (Kd.slice 3 (Kd.int .i64)) w A G.length G
abbrev IR (w : World) (B : Nat) (v : Value) (xs : List Int) : Prop := (Kd.int .i64).R 3 w B (fun k => B ≤ k) v xs
set_option maxHeartbeats 1000000 in
set_option maxRecDepth 100000 in
theorem worder_calls (A : Option Addr) (c : Nat) (G : Gr) (w : World) (hr : GC w A G) (hc : G.length ≤ c) (hz : Gsz G) :
    Calls Try.prog 18 #[.slice A G.length c] w fun e w' => ∃ v, e = .returned (.tuple #[v, .int .i64 (ordR G).2]) ∧ IR w' w.heap.size v (ordR G).1 ∧ Below w.heap.size w w' := by
  obtain ⟨kl, hkl⟩ := (lists_ev G (by have := hz.n; omega) (fun y hy => by have := hz.rows y hy; omega)).rounds
  have HR := Aside0.mk hr
  have HZ := Aside0.mk hz
  have HL := Aside0.mk hkl
  clear hr hz hkl
  go_enter Try.func18, Try.ntmps18
  go_wp2_with fail
  refine (wave_lists.calls kl A c G _ w HR.out hc HL.out).mono ?_
  rintro e w1 ⟨rfl, hd⟩
  obtain ⟨nd, hd⟩ := hd.out
  have HB : Aside0 (Below w.heap.size w w1) := ⟨by rw [hd]; exact pw_below_drewN (Below.refl _ _) _⟩
  clear hd HL
  by_cases h0 : listsE G = 0
  · have HOK := Aside0.mk (ok_of h0)
    have HRC := Aside0.mk (Kd.C_below HR.out HB.out)
    have HY := Aside0.mk (young_ev HOK.out (by have := HZ.out.n; omega) (fun y hy => by have := HZ.out.rows y hy; omega))
    have HO : Aside0 (ordR G = if (ordA G).length < G.length then ([], 111) else (ordA G, 0)) := ⟨by
      unfold ordR ordE
      rw [if_neg (show ¬ listsE G ≠ 0 by omega)]
      by_cases h : (ordA G).length < G.length
      · simp [h]
      · simp [h]⟩
    have hln := ordA_len G
    have hzn := HZ.out.n
    rw [h0]
    clear h0
    go_wp2_with fail
    refine (order_calls A c G w1 HRC.out hc HZ.out.n HZ.out.rows HOK.out HY.out).mono ?_
    rintro e w2 ⟨v, rfl, hv, hb⟩
    have HB2 := Aside0.mk (HB.out.trans (hb.mono HB.out.size))
    have HV := Aside0.mk hv
    clear hb hv
    obtain ⟨Av, cv, rfl⟩ := Kd.R_slice HV.out
    have HVL := Aside0.mk (Kd.R_reads' HV.out)
    by_cases hlt : (ordA G).length < G.length
    · have hlt' : decide ((ordA G).length < G.length) = true := decide_eq_true hlt
      rw [if_pos hlt] at HO
      clear hlt
      go_wp2_with fail
      go_ret2
      rw [HO.out]
      exact ⟨_, rfl, Kd.R_nil _ _ _ _ _, HB2.out⟩
    · have hlt' : decide ((ordA G).length < G.length) = false := decide_eq_false hlt
      rw [if_neg hlt] at HO
      clear hlt
      go_wp2_with fail
      go_ret2
      rw [HO.out]
      exact ⟨_, rfl, Kd.R_mono (Kd.R_lower HV.out HB.out.size) (fun k hk => Nat.le_trans HB.out.size hk), HB2.out⟩
  · have hb : (listsE G == 0) = false := by simpa using h0
    have hb' : (listsE G != 0) = true := by simpa using h0
    have HO : Aside0 (ordR G = ([], listsE G)) := ⟨by unfold ordR ordE; simp [h0]⟩
    clear h0
    generalize listsE G = er at hb hb' HO ⊢
    go_wp2_with fail
    go_ret2
    rw [HO.out]
    exact ⟨_, rfl, Kd.R_nil _ _ _ _ _, HB.out⟩
theorem ordR_snd (G : Gr) : (ordR G).2 = ordE G := by
  unfold ordR
  by_cases h : ordE G = 0
  · rw [if_pos h, h]
  · rw [if_neg h]
set_option maxRecDepth 100000 in
theorem right_calls (A : Option Addr) (c : Nat) (G : Gr) (w : World) (hr : GC w A G) (hc : G.length ≤ c) (hz : Gsz G) :
    Calls Try.prog 22 #[.slice A G.length c] w fun e w' => e = .returned (.int .i64 (ordE G)) ∧ Below w.heap.size w w' := by
  have HR := Aside0.mk hr
  clear hr
  go_enter Try.func22, Try.ntmps22
  go_wp2_with fail
  refine (worder_calls A c G w HR.out hc hz).mono ?_
  rintro e w1 ⟨v, rfl, hv, hb⟩
  rw [ordR_snd]
  clear hv
  have HB := Aside0.mk hb
  clear hb
  go_wp2_with fail
  go_ret
  exact ⟨rfl, HB.out⟩
end Go.Proofs.Ytkeadpichlgagaa.Wv
