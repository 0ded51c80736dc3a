/- Kept of the text MzR: what is reached (wip/tools/prune.py). -/
import Derived.Test.YtnkpleggmiamdaaVMzA
import Derived.Test.YtnkpleggmiamdaaVPrD
namespace Go.Proofs.Ytnkpleggmiamdaa.Mo
open Go.RowKit Go.Maps Go.Proofs.YtnkpleggmiamdaaW.PrintWords Go.Proofs.YtnkpleggmiamdaaW.PrintLast Go.Proofs.YtnkpleggmiamdaaW.PrintMore
open Go.Proofs.Ytnkpleggmiamdaa.PSessionParses
set_option linter.unusedVariables false
set_option linter.unusedSimpArgs false
inductive RTk (n : Nat) (r : S105 × Int) (x : S105) (at_ er : Int) : Prop
  | err (h : er ≠ 0) (e : r.2 = er)
  | more (h : er = 0) (l : at_ < n) (e : r.2 = 12)
  | all (h : er = 0) (l : at_ = n) (e : r = (x, 0))
def RTakeQ (n : Nat) (r : S105 × Int) (w : World) (E : Ending) (w' : World) : Prop :=
  Below w.heap.size w w' ∧ ∃ (x : S105) (A1 : Option Addr) (n1 : Nat) (A2 : Option Addr) (n2 : Nat) (at_ er : Int), E = .returned (.tuple #[.agg #[.int .u64 x.f0, .slice A1 x.f1.length n1, .slice A2 x.f2.length n2], .int .i64 at_, .int .i64 er]) ∧
    x.f1.length ≤ n1 ∧ (Kd.int .u8).C w' A1 x.f1.length x.f1 ∧ x.f2.length ≤ n2 ∧ k105.C w' A2 x.f2.length x.f2 ∧ RTk n r x at_ er
theorem rtake_calls (k : Sh) (l : List UInt8) (hg : Gd k) (hd : dep k ≤ 9) (hr : ren k = l) (hl : l.length ≤ 1000) (hp : parseF l = some k) (bs : List Int) (A : Option Addr) (c : Nat) (w : World) (hC : (Kd.int .u8).C w A bs.length bs) (hc : bs.length ≤ c) (hx : Byt bs) (hn : bs.length ≤ 1000000) :
    Calls Try.prog 61 #[.string (str l), .slice A bs.length c, .int .i64 0] w (RTakeQ bs.length (takeTop l bs) w) := by
  obtain ⟨q, hq, hev⟩ := take_val bs hx hn k hg hd (by rw [hr]; exact hl) 0 (Nat.zero_le _)
  rw [hr] at hev
  obtain ⟨m, hm⟩ := hev.rounds
  rw [List.drop_zero] at hq
  have hsuf := takeS_suf hx hg (a := 0)
  rw [List.drop_zero] at hsuf
  obtain ⟨q0, q1, q2, q3, q4⟩ := q
  refine (echelonref01_Take.calls m (str l) A c bs _ _ _ _ _ _ w hC hc hm).mono ?_
  rintro E w' ⟨v1, v2, rfl, hR1, hR2, hB⟩
  obtain ⟨A1, c1, rfl, h1, hC1⟩ := Kd.R_reads hR1
  obtain ⟨A2, c2, rfl, h2, hC2⟩ := Kd.R_reads hR2
  refine ⟨hB, ⟨q0, q1, q2⟩, A1, c1, A2, c2, q3, q4, rfl, h1, hC1, h2, hC2, ?_⟩
  obtain ⟨e1, e2⟩ := hq
  simp only at e1 e2
  unfold takeTop
  rw [hp]
  simp only
  by_cases he : (takeS k bs 0).2.2 = 0
  · rw [if_pos he]
    have h4 : q4 = 0 := e1.trans he
    have hqe := e2 he
    have hs := hsuf he
    have hle : (takeS k bs 0).2.1.length ≤ bs.length := by
      have := congrArg List.length hs
      rw [List.length_drop] at this
      omega
    by_cases hr0 : (takeS k bs 0).2.1 = []
    · rw [if_pos hr0]
      rw [hr0] at hqe
      simp only [Prod.mk.injEq] at hqe
      obtain ⟨a0, a1, a2, a3, _⟩ := hqe
      refine .all h4 (by rw [a3]; simp) ?_
      rw [a0, a1, a2, eta105]
    · rw [if_neg hr0]
      simp only [Prod.mk.injEq] at hqe
      obtain ⟨a0, a1, a2, a3, _⟩ := hqe
      have : 0 < (takeS k bs 0).2.1.length := List.length_pos_iff.2 hr0
      exact .more h4 (by rw [a3]; omega) rfl
  · rw [if_neg he]
    exact .err (by rw [e1]; exact he) e1.symm
end Go.Proofs.Ytnkpleggmiamdaa.Mo
