/- TimerDue: two alarms side by side, and the lists of what came due. -/
import Derived.Test.YtcdlccnpbhjgkaaTiH
namespace Go.Proofs.Ytcdlccnpbhjgkaa.Ti
open Go.RowKit Go.Maps Go.Proofs.YtcdlccnpbhjgkaaW.PrintWords Go.Proofs.YtcdlccnpbhjgkaaW.PrintLast Go.Proofs.YtcdlccnpbhjgkaaW.PrintMore
open Go.Proofs.Ytcdlccnpbhjgkaa.PTimerAlarms Go.Proofs.Ytcdlccnpbhjgkaa.Mp
set_option linter.unusedVariables false
set_option linter.unusedSimpArgs false

theorem due_rest {m now : Int} (h : m ≤ now) : ∀ l : Q, due m l ++ due now (rest m l) = due now l ∧ rest now (rest m l) = rest now l
  | [] => ⟨rfl, rfl⟩
  | a :: l => by
    have ih := due_rest h l
    by_cases ha : a.f0 ≤ m
    · have ha2 : a.f0 ≤ now := by omega
      unfold due rest at *
      simp only [List.takeWhile_cons, List.dropWhile_cons, decide_eq_true ha, decide_eq_true ha2, if_true, List.map_cons, List.cons_append, ih.1, ih.2, and_self]
    · have e1 : due m (a :: l) = [] := by unfold due; simp [List.takeWhile_cons, ha]
      have e2 : rest m (a :: l) = a :: l := by unfold rest; simp [List.dropWhile_cons, ha]
      rw [e1, e2]
      exact ⟨rfl, rfl⟩
theorem due_all {now : Int} : ∀ {l : Q}, (∀ a ∈ l, a.f0 ≤ now) → due now l = l.map (·.f1) ∧ rest now l = []
  | [], _ => ⟨rfl, rfl⟩
  | a :: l, h => by
    have ih := due_all (fun b hb => h b (List.mem_cons_of_mem _ hb))
    have ha := h a List.mem_cons_self
    unfold due rest at *
    simp only [List.takeWhile_cons, List.dropWhile_cons, decide_eq_true ha, if_true, List.map_cons, ih.1, ih.2, and_self]
theorem due_none {now : Int} {l : Q} (h : ∀ a ∈ l, now < a.f0) : due now l = [] ∧ rest now l = l := by
  cases l with
  | nil => exact ⟨rfl, rfl⟩
  | cons a l =>
    have ha : ¬ a.f0 ≤ now := by have := h a List.mem_cons_self; omega
    unfold due rest
    simp [List.takeWhile_cons, List.dropWhile_cons, ha]
structure LI (i : Nat) (most : Int) (l : Q) : Prop where
  len : l.length = i
  mem : ∀ a ∈ l, 0 ≤ a.f0 ∧ a.f0 ≤ most ∧ a.f1 < i
theorem LI.set {i : Nat} {most t : Int} {l : Q} (h : LI i most l) (ht : 0 ≤ t) : LI (i + 1) (if most < t then t else most) (set1 t i l) := by
  have hn : (i : Int) ∉ l.map (·.f1) := by
    intro hm
    obtain ⟨a, ha, e⟩ := List.mem_map.1 hm
    have := (h.mem a ha).2.2
    omega
  have hp : (set1 t i l).Perm (⟨t, i⟩ :: l) := by
    unfold set1
    rw [without_id hn]
    exact ins_perm _ _
  refine ⟨by rw [hp.length_eq, List.length_cons, h.len], fun a ha => ?_⟩
  rcases List.mem_cons.1 (hp.mem_iff.1 ha) with rfl | ha
  · refine ⟨ht, ?_, ?_⟩
    · show t ≤ _
      split <;> omega
    · show (i : Int) < _
      omega
  · have := h.mem a ha
    refine ⟨this.1, ?_, by omega⟩
    split <;> omega

structure Two (w0 w : World) (a1 : Nat) (b1 : Option Nat) (l1 : Q) (a2 : Nat) (b2 : Option Nat) (l2 : Q) : Prop where
  A : AlB w0 w a1 b1 l1
  B : AlB w0 w a2 b2 l2
  ne : a1 ≠ a2
  n1 : b1 ≠ some a2
  n2 : b2 ≠ some a1
  nb : ∀ k, b1 = some k → b2 ≠ some k
theorem Two.symm {w0 w : World} {a1 a2 : Nat} {b1 b2 : Option Nat} {l1 l2 : Q} (h : Two w0 w a1 b1 l1 a2 b2 l2) : Two w0 w a2 b2 l2 a1 b1 l1 :=
  ⟨h.B, h.A, h.ne.symm, h.n2, h.n1, fun k e e' => h.nb k e' e⟩
theorem Two.next {w0 w w' : World} {a1 a2 : Nat} {b1 b2 b1' : Option Nat} {l1 l2 l1' : Q} (h : Two w0 w a1 b1 l1 a2 b2 l2) (hA : AlB w0 w' a1 b1' l1') (hT : TurnB a1 b1 b1' w w') : Two w0 w' a1 b1' l1' a2 b2 l2 := by
  refine ⟨hA, ⟨h.B.is.move (fun k hk hlt => hT.1.block k hlt (fun e => ?_)), fun k hk => ⟨(h.B.bo k hk).1, Nat.lt_of_lt_of_le (h.B.bo k hk).2 hT.1.size⟩, h.B.ge, Nat.lt_of_lt_of_le h.B.lt hT.1.size, hA.below⟩, h.ne, ?_, h.n2, ?_⟩
  · rcases hk with rfl | hk
    · rcases e with e | e
      · exact h.ne e.symm
      · exact h.n1 e
    · rcases e with rfl | e
      · exact h.n2 hk
      · exact h.nb k e hk
  · intro e
    rcases hT.2 with e' | ⟨b, e', hb⟩
    · exact h.n1 (e'.symm.trans e)
    · rw [e'] at e
      injection e with e
      have := h.B.lt
      omega
  · intro k e e2
    rcases hT.2 with e' | ⟨b, e', hb⟩
    · exact h.nb k (e'.symm.trans e) e2
    · rw [e'] at e
      injection e with e
      have := (h.B.bo k e2).2
      omega
theorem Two.below {w0 w w1 : World} {a1 a2 : Nat} {b1 b2 : Option Nat} {l1 l2 : Q} (h : Two w0 w a1 b1 l1 a2 b2 l2) (hb : Below w.heap.size w w1) : Two w0 w1 a1 b1 l1 a2 b2 l2 :=
  ⟨h.A.next hb, h.B.next hb, h.ne, h.n1, h.n2, h.nb⟩

theorem AlB.grown {w0 w w1 : World} {ab : Nat} {bo row : Option Nat} {l : Q} (h : AlB w0 w ab bo l) (hg : w.grownBy w1 row) (hr : ∀ k, row = some k → w0.heap.size ≤ k ∧ k ≠ ab ∧ bo ≠ some k) : AlB w0 w1 ab bo l := by
  refine ⟨h.is.move (fun k hk hlt => hg.block k hlt (fun e => ?_)), fun k hk => ⟨(h.bo k hk).1, Nat.lt_of_lt_of_le (h.bo k hk).2 hg.size⟩, h.ge, Nat.lt_of_lt_of_le h.lt hg.size, ?_⟩
  · have := hr k e.symm
    rcases hk with hk | hk
    · exact this.2.1 hk
    · exact this.2.2 hk
  · have hF : FrS (fun k => w0.heap.size ≤ k) w w1 := ⟨hg.os, hg.tape, hg.output, hg.size, fun k hk hn => hg.block k hk (fun e => hn (hr k e.symm).1)⟩
    exact h.below.trans (hF.to_below (fun k hk => hk) h.below.size)

/-- What came due so far, by either way; all newer than H. -/
structure Outs (H : Nat) (w : World) (v1 : Value) (x1 : List Int) (v2 : Value) (x2 : List Int) : Prop where
  R1 : Kd.R (Kd.int .i64) 3 w H (fun k => H ≤ k) v1 x1
  R2 : Kd.R (Kd.int .i64) 3 w H (fun k => H ≤ k) v2 x2
  ne : ∀ k, v1.ownBlock = some k → v2.ownBlock ≠ some k
theorem Outs.symm {H : Nat} {w : World} {v1 v2 : Value} {x1 x2 : List Int} (h : Outs H w v1 x1 v2 x2) : Outs H w v2 x2 v1 x1 := ⟨h.R2, h.R1, fun k e e' => h.ne k e' e⟩
theorem Outs.frS {H : Nat} {S : Nat → Prop} {w w1 : World} {v1 v2 : Value} {x1 x2 : List Int} (h : Outs H w v1 x1 v2 x2) (hf : FrS S w w1) (hs : ∀ k, S k → k < H) : Outs H w1 v1 x1 v2 x2 := by
  have m : ∀ k, H ≤ k → k < w.heap.size → w1.heap[k]? = w.heap[k]? := fun k hk hlt => hf.block k hlt (fun e => by have := hs k e; omega)
  exact ⟨Kd.R_step h.R1 (fun k hk hlt => m k hk hlt), Kd.R_step h.R2 (fun k hk hlt => m k hk hlt), h.ne⟩
theorem Outs.grown {H : Nat} {w w1 : World} {v1 v2 v1' : Value} {x1 x2 x1' : List Int} (h : Outs H w v1 x1 v2 x2) (hR : Kd.R (Kd.int .i64) 3 w1 H (fun k => H ≤ k) v1' x1') (hg : w.grownBy w1 v1.ownBlock) (hat : v1'.ownBlock = v1.ownBlock ∨ ∃ b, v1'.ownBlock = some b ∧ w.heap.size ≤ b) : Outs H w1 v1' x1' v2 x2 := by
  have hR2 := Kd.R_mono (ok := fun k => H ≤ k ∧ v2.ownBlock = some k) (ok' := fun k => H ≤ k) (Kd.R_step (w1 := w1) (show Kd.R (Kd.int .i64) 3 w H (fun k => H ≤ k ∧ v2.ownBlock = some k) v2 x2 from ⟨fun k hk => ⟨h.R2.1 k hk, hk⟩, h.R2.2⟩) (fun k hk hlt => hg.block k hlt (fun e => h.ne k e.symm hk.2))) (fun k hk => hk.1)
  refine ⟨hR, hR2, fun k e e2 => ?_⟩
  rcases hat with e' | ⟨b, e', hb⟩
  · exact h.ne k (e'.symm.trans e) e2
  · rw [e'] at e
    injection e with e
    have := Kd.R_lt h.R2 k e2
    omega
end Go.Proofs.Ytcdlccnpbhjgkaa.Ti
