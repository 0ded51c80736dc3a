/- health: a report taken or not, and awake. -/
import Derived.Test.YtnkpleggmiamdaaHeA
namespace Go.Proofs.Ytnkpleggmiamdaa.He
open Go.RowKit Go.Maps Go.Proofs.YtnkpleggmiamdaaW.PrintWords Go.Proofs.YtnkpleggmiamdaaW.PrintLast Go.Proofs.YtnkpleggmiamdaaW.PrintMore
open Go.Proofs.Ytnkpleggmiamdaa.PHealthApart Go.Proofs.Ytnkpleggmiamdaa.Mp
set_option linter.unusedVariables false
set_option linter.unusedSimpArgs false

def repOk (M : List (Int × Kn)) (c n : Int) : Bool := okF c n && decide ((knF M c).1 < n)
def repF (win : Int) (M : List (Int × Kn)) (c n : Int) (good : Bool) : List (Int × Kn) := if repOk M c n then aput c (newK (knF M c) win n good) M else M
/-- Counts lie in their bounds. -/
def GoodM (M : List (Int × Kn)) : Prop := ∀ c, 0 ≤ (knF M c).2.1 ∧ (knF M c).2.1 ≤ 64

theorem knF_put_same (M : List (Int × Kn)) (c : Int) (k : Kn) : knF (aput c k M) c = k := by simp [knF, alook_put_same]
theorem knF_put_other (M : List (Int × Kn)) {c d : Int} (h : d ≠ c) (k : Kn) : knF (aput c k M) d = knF M d := by simp [knF, alook_put_other h]
theorem GoodM.nil : GoodM [] := fun c => by simp [knF, alook]
theorem GoodM.rep {win : Int} (h1 : 1 ≤ win) (h2 : win ≤ 64) {M : List (Int × Kn)} (h : GoodM M) (c n : Int) (good : Bool) : GoodM (repF win M c n good) := by
  unfold repF
  split
  · intro d
    by_cases e : d = c
    · subst e
      rw [knF_put_same]
      have := h d
      simp only [newK]
      split <;> omega
    · rw [knF_put_other _ e]; exact h d
  · exact h

theorem report_calls (p bm : Nat) (win lim : Int) (M : List (Int × Kn)) (c n : Int) (good : Bool) (w : World) (h : WatchIs w p bm win lim M) (h1 : 1 ≤ win) (h2 : win ≤ 64) (hw : (Lit.int .i64 c).wf = true) (hg : GoodM M) :
    Calls Try.prog 33 #[.pointer (some ⟨p, 0, none⟩), .int .i64 c, .int .i64 n, .bool good] w fun e w' => e = .returned (.bool (repOk M c n)) ∧ WatchIs w' p bm win lim (repF win M c n good) ∧ Fr1 w w' bm := by
  unfold repF
  cases hr : repOk M c n with
  | true =>
    simp only [repOk, Bool.and_eq_true, decide_eq_true_eq] at hr
    simp only [if_true]
    exact report_yes p bm win lim M c n good w h h1 h2 hw (hg c) hr.1 hr.2
  | false =>
    simp only [Bool.false_eq_true, if_false]
    refine (report_no p bm win lim M c n good w h ?_).mono fun e w' ⟨he, hb⟩ => ⟨he, h.below hb, Fr1.of_below bm hb⟩
    simp only [repOk, Bool.and_eq_false_iff, decide_eq_false_iff_not] at hr
    rcases hr with hr | hr
    · exact .inl hr
    · exact .inr (by omega)

theorem ones_some (x : Int) : ∃ r, bits_OnesCount64.f x = some r := by
  unfold bits_OnesCount64.f
  exact ⟨_, rfl⟩
def sickF (M : List (Int × Kn)) (lim c : Int) : Bool := decide (lim ≤ (bits_OnesCount64.f (knF M c).2.2).getD 0)
theorem sick_any (p bm : Nat) (win lim : Int) (M : List (Int × Kn)) (c : Int) (w : World) (h : WatchIs w p bm win lim M) :
    Calls Try.prog 34 #[.pointer (some ⟨p, 0, none⟩), .int .i64 c] w fun e w' => e = .returned (.bool (sickF M lim c)) ∧ Below w.heap.size w w' := by
  obtain ⟨r, hr⟩ := ones_some (knF M c).2.2
  have e : sickF M lim c = decide (lim ≤ r) := by unfold sickF; rw [hr]; rfl
  rw [e]
  exact sick_calls p bm win lim M c w h r hr

def M1 : List (Int × Kn) := [(7, 1, 1, 1)]
def M2 : List (Int × Kn) := [(7, 2, 2, 2)]
def M3 : List (Int × Kn) := [(7, 3, 3, 5)]
def M4 : List (Int × Kn) := [(7, 4, 3, 2)]

set_option maxRecDepth 100000 in
theorem awake_calls (w : World) : Calls Try.prog 31 #[] w fun e w' => e = .returned (.bool true) ∧ Below w.heap.size w w' := by
  go_enter Try.func31, Try.ntmps31
  go_wp2_with fail
  refine (new_ok 3 2 w (by decide)).mono ?_
  rintro e w1 ⟨p, bm, rfl, hp, hbm, W, hB⟩
  have WI := Aside0.mk W
  have HB := Aside0.mk hB
  clear W hB
  go_wp2_with fail
  refine (report_yes p bm 3 2 [] 7 1 false _ WI.out (by decide) (by decide) (by decide +kernel) (by decide +kernel) (by decide +kernel) (by decide +kernel)).mono ?_
  rintro e w2 ⟨rfl, W, hF⟩
  rw [show aput 7 (newK (knF [] 7) 3 1 false) [] = M1 from by decide +kernel] at W
  replace HB := Aside0.mk (HB.out.trans (hF.to_below hbm HB.out.size))
  replace WI := Aside0.mk W
  clear W hF
  go_wp2_with fail
  refine (report_yes p bm 3 2 M1 7 2 true _ WI.out (by decide) (by decide) (by decide +kernel) (by decide +kernel) (by decide +kernel) (by decide +kernel)).mono ?_
  rintro e w3 ⟨rfl, W, hF⟩
  rw [show aput 7 (newK (knF M1 7) 3 2 true) M1 = M2 from by decide +kernel] at W
  replace HB := Aside0.mk (HB.out.trans (hF.to_below hbm HB.out.size))
  replace WI := Aside0.mk W
  clear W hF
  go_wp2_with fail
  refine (sick_any p bm 3 2 M2 7 _ WI.out).mono ?_
  rintro e w4 ⟨rfl, hB⟩
  rw [show sickF M2 2 7 = false from by decide +kernel]
  replace WI := Aside0.mk (WI.out.below hB)
  replace HB := Aside0.mk (HB.out.trans (hB.mono HB.out.size))
  clear hB
  go_wp2_with fail
  refine (report_yes p bm 3 2 M2 7 3 false _ WI.out (by decide) (by decide) (by decide +kernel) (by decide +kernel) (by decide +kernel) (by decide +kernel)).mono ?_
  rintro e w5 ⟨rfl, W, hF⟩
  rw [show aput 7 (newK (knF M2 7) 3 3 false) M2 = M3 from by decide +kernel] at W
  replace HB := Aside0.mk (HB.out.trans (hF.to_below hbm HB.out.size))
  replace WI := Aside0.mk W
  clear W hF
  go_wp2_with fail
  refine (sick_any p bm 3 2 M3 7 _ WI.out).mono ?_
  rintro e w6 ⟨rfl, hB⟩
  rw [show sickF M3 2 7 = true from by decide +kernel]
  replace WI := Aside0.mk (WI.out.below hB)
  replace HB := Aside0.mk (HB.out.trans (hB.mono HB.out.size))
  clear hB
  go_wp2_with fail
  refine (report_yes p bm 3 2 M3 7 4 true _ WI.out (by decide) (by decide) (by decide +kernel) (by decide +kernel) (by decide +kernel) (by decide +kernel)).mono ?_
  rintro e w7 ⟨rfl, W, hF⟩
  rw [show aput 7 (newK (knF M3 7) 3 4 true) M3 = M4 from by decide +kernel] at W
  replace HB := Aside0.mk (HB.out.trans (hF.to_below hbm HB.out.size))
  replace WI := Aside0.mk W
  clear W hF
  go_wp2_with fail
  refine (sick_any p bm 3 2 M4 7 _ WI.out).mono ?_
  rintro e w8 ⟨rfl, hB⟩
  rw [show sickF M4 2 7 = false from by decide +kernel]
  replace WI := Aside0.mk (WI.out.below hB)
  replace HB := Aside0.mk (HB.out.trans (hB.mono HB.out.size))
  clear hB
  go_wp2_with fail
  refine (report_no p bm 3 2 M4 7 4 true _ WI.out (by decide +kernel)).mono ?_
  rintro e w9 ⟨rfl, hB⟩
  replace WI := Aside0.mk (WI.out.below hB)
  replace HB := Aside0.mk (HB.out.trans (hB.mono HB.out.size))
  clear hB
  go_wp2_with fail
  refine (last_calls p bm 3 2 M4 7 _ WI.out).mono ?_
  rintro e w10 ⟨rfl, rfl⟩
  rw [show ((alook 7 M4).getD (0, 0, 0)).1 = 4 from by decide +kernel]
  go_wp2_with fail
  go_ret
  exact ⟨rfl, HB.out⟩

end Go.Proofs.Ytnkpleggmiamdaa.He
