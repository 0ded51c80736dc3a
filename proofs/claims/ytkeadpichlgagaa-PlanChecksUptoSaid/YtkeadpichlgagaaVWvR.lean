/- Kept of the text WvR: what is reached (wip/tools/prune.py). -/
import Derived.Test.YtkeadpichlgagaaVWvQ
import Derived.Test.YtkeadpichlgagaaVPm7
import Derived.Test.YtkeadpichlgagaaVPWaveReadyx10
namespace Go.Proofs.Ytkeadpichlgagaa.Wv
open Go.RowKit Go.Proofs.YtkeadpichlgagaaW.PrintWords Go.Proofs.YtkeadpichlgagaaW.PrintLast Go.Proofs.YtkeadpichlgagaaW.PrintMore
open Go.Proofs.Ytkeadpichlgagaa.PWaveReady
set_option linter.unusedVariables false
set_option linter.unusedSimpArgs false
theorem has_at (l : List Int) (c : Int) (hl : l.length ≤ 1000000000) : ∀ d i : Nat, i + d = l.length → Ev (fun k => echelonref14_has.l0 k l c (i : Int)) (decide (c ∈ l.drop i))
  | 0, i, h => by
    rw [List.drop_of_length_le (by omega)]
    exact Ev.step (f := fun _ => some false) (fun k => by simp only [echelonref14_has.l0]; rw [if_neg (by omega)]) (by simpa using Ev.now false)
  | d + 1, i, h => by
    have hlt : i < l.length := by omega
    rw [List.drop_eq_getElem_cons hlt]
    by_cases hq : l[i] = c
    · have e : decide (c ∈ l[i] :: l.drop (i + 1)) = true := decide_eq_true (by rw [hq]; exact List.mem_cons_self)
      rw [e]
      exact Ev.step (f := fun _ => some true) (fun k => by simp only [echelonref14_has.l0]; rw [if_pos (by omega), if_pos (by omega), rd_at l hlt, if_pos hq]) (Ev.now _)
    · have e : decide (c ∈ l[i] :: l.drop (i + 1)) = decide (c ∈ l.drop (i + 1)) := decide_eq_decide.2 (by rw [List.mem_cons]; exact ⟨fun h => h.resolve_left (Ne.symm hq), .inr⟩)
      rw [e]
      exact Ev.step (fun k => by simp only [echelonref14_has.l0]; rw [if_pos (by omega), if_pos (by omega), rd_at l hlt, if_neg hq, inc i (by omega)]) (has_at l c hl d (i + 1) (by omega))
theorem has_ev (l : List Int) (c : Int) (hl : l.length ≤ 1000000000) : Ev (fun k => echelonref14_has.f k l c) (decide (c ∈ l)) := by
  have := has_at l c hl l.length 0 (by omega)
  rw [List.drop_zero] at this
  exact this
theorem next_in (G : Gr) (out : List Int) (hN : G.length ≤ 1000000000) (hO : out.length ≤ 1000000000) (n : Nat) (hn : n < G.length) (hl : (row G (n : Int)).length ≤ 1000000000) (r : Int) : ∀ (d i : Nat) (b : Bool), i + d = (row G (n : Int)).length →
    ((b && ((row G (n : Int)).drop i).all (fun e => out.contains e)) = true ∧ r = n ∨ (b && ((row G (n : Int)).drop i).all (fun e => out.contains e)) = false ∧ Ev (fun k => echelonref14_Next.l0 k G out ((n + 1 : Nat) : Int)) r) →
    Ev (fun k => echelonref14_Next.l1 k G out n b (i : Int)) r
  | 0, i, b, h, hr => by
    rw [List.drop_of_length_le (by omega)] at hr
    rcases hr with ⟨h1, rfl⟩ | ⟨h1, h2⟩
    · have hb : b = true := by simpa using h1
      subst hb
      exact Ev.step (f := fun _ => some (n : Int)) (fun k => by simp only [echelonref14_Next.l1]; rw [if_pos (by omega), if_pos (by omega), rdL_row, if_neg (by omega), if_pos trivial]) (Ev.now _)
    · have hb : b = false := by simpa using h1
      subst hb
      exact Ev.step (fun k => by simp only [echelonref14_Next.l1]; rw [if_pos (by omega), if_pos (by omega), rdL_row, if_neg (by omega), if_neg (by simp), inc n (by omega)]) h2
  | d + 1, i, b, h, hr => by
    have hlt : i < (row G (n : Int)).length := by omega
    rw [List.drop_eq_getElem_cons hlt, List.all_cons] at hr
    cases b with
    | true =>
      refine Ev.step (f := fun k => (echelonref14_has.f k out (row G (n : Int))[i]).bind fun t264 => (echelonref14_Next.l1 k G out n t264 ((i + 1 : Nat) : Int))) (fun k => by
        simp only [echelonref14_Next.l1]
        rw [if_pos (by omega), if_pos (by omega), rdL_row, if_pos (by omega), if_pos trivial, if_pos (by omega), rd_at _ hlt, inc i (by omega)]) (Ev.bind (has_ev out _ hO) ?_)
      refine next_in G out hN hO n hn hl r d (i + 1) _ (by omega) ?_
      have e : out.contains (row G (n : Int))[i] = decide ((row G (n : Int))[i] ∈ out) := by simp
      rw [Bool.true_and, e] at hr
      exact hr
    | false =>
      refine Ev.step (fun k => by
        simp only [echelonref14_Next.l1]
        rw [if_pos (by omega), if_pos (by omega), rdL_row, if_pos (by omega), if_neg (by simp), inc i (by omega)]) (next_in G out hN hO n hn hl r d (i + 1) false (by omega) ?_)
      simpa using hr
def nx (G : Gr) (out : List Int) : Nat → Nat → Int
  | 0, _ => -1
  | d + 1, n => if isR G out (n : Int) then (n : Int) else nx G out d (n + 1)
theorem rng_drop {N n : Nat} (h : n < N) : (rng N).drop n = (n : Int) :: (rng N).drop (n + 1) := by
  rw [List.drop_eq_getElem_cons (by rw [rng_length]; exact h)]
  simp [rng]
theorem nx_at (G : Gr) (out : List Int) : ∀ d n, n + d = G.length → nx G out d n = match ((rng G.length).drop n).filter (isR G out) with | [] => -1 | a :: _ => a
  | 0, n, h => by rw [List.drop_of_length_le (by rw [rng_length]; omega)]; rfl
  | d + 1, n, h => by
    rw [rng_drop (by omega), List.filter_cons]
    unfold nx
    by_cases hr : isR G out (n : Int) = true
    · rw [if_pos hr, if_pos hr]
    · rw [if_neg hr, if_neg hr]; exact nx_at G out d (n + 1) (by omega)
def nextF (G : Gr) (out : List Int) : Int := match rdy G out with | [] => -1 | a :: _ => a
theorem next_out (G : Gr) (out : List Int) (hN : G.length ≤ 1000000000) (hO : out.length ≤ 1000000000) (hrows : ∀ y : Nat, y < G.length → (row G (y : Int)).length ≤ 1000000000) : ∀ d n : Nat, n + d = G.length →
    Ev (fun k => echelonref14_Next.l0 k G out (n : Int)) (nx G out d n)
  | 0, n, h => Ev.step (f := fun _ => some (-1)) (fun k => by simp only [echelonref14_Next.l0]; rw [if_neg (by omega)]) (Ev.now _)
  | d + 1, n, h => by
    have ih := next_out G out hN hO hrows d (n + 1) (by omega)
    refine Ev.step (f := fun k => (echelonref14_has.f k out (n : Int)).bind fun t260 => (echelonref14_Next.l1 k G out n (!t260) ((0 : Nat) : Int))) (fun k => by
      simp only [echelonref14_Next.l0]
      rw [if_pos (by omega)]
      rfl) (Ev.bind (has_ev out _ hO) ?_)
    refine next_in G out hN hO n (by omega) (hrows n (by omega)) _ (row G (n : Int)).length 0 _ (by omega) ?_
    rw [List.drop_zero]
    have e : (!decide ((n : Int) ∈ out) && (row G (n : Int)).all (fun e => out.contains e)) = isR G out (n : Int) := by simp [isR]
    rw [e]
    unfold nx
    cases hr : isR G out (n : Int) with
    | true => exact .inl ⟨rfl, by simp⟩
    | false => exact .inr ⟨rfl, by simpa using ih⟩
theorem next_ev (G : Gr) (out : List Int) (hN : G.length ≤ 1000000000) (hO : out.length ≤ 1000000000) (hrows : ∀ y : Nat, y < G.length → (row G (y : Int)).length ≤ 1000000000) : Ev (fun k => echelonref14_Next.f k G out) (nextF G out) := by
  have := next_out G out hN hO hrows G.length 0 (by omega)
  rw [nx_at G out G.length 0 (by omega), List.drop_zero] at this
  exact this
theorem build_ev (G : Gr) (hN : G.length ≤ 1000000000) (hrows : ∀ y : Nat, y < G.length → (row G (y : Int)).length ≤ 1000000000) : ∀ (d : Nat) (out : List Int), out.length + d = G.length → St G out →
    Ev (fun k => echelonref14_Order.l2 k G out) (if (ordL G d out).length < G.length then (([] : List Int), (111 : Int)) else (ordL G d out, 0))
  | 0, out, h, hs => by
    rw [if_neg (by simp [ordL]; omega)]
    exact Ev.step (f := fun _ => some (out, 0)) (fun k => by simp only [echelonref14_Order.l2]; rw [if_neg (by omega)]) (Ev.now _)
  | d + 1, out, h, hs => by
    have C := next_ev G out hN (by omega) hrows
    refine Ev.step (f := fun k => (echelonref14_Next.f k G out).bind fun t271 => (if t271 < 0 then (some (([] : List Int), 111)) else (if out.length < 17592186044416 then (echelonref14_Order.l2 k G (out ++ [t271])) else (none)))) (fun k => by simp only [echelonref14_Order.l2]; rw [if_pos (by omega)]) (Ev.bind C ?_)
    unfold nextF
    cases hr : rdy G out with
    | nil =>
      have e : ordL G (d + 1) out = out := by simp [ordL, hr]
      rw [e, if_pos (by omega)]
      simp only [if_pos (show (-1 : Int) < 0 by omega)]
      exact Ev.now _
    | cons a t =>
      have e : ordL G (d + 1) out = ordL G d (out ++ [a]) := by simp [ordL, hr]
      have ha : a ∈ rdy G out := by rw [hr]; exact List.mem_cons_self
      have h0 := (mem_rdy.1 ha).1
      rw [e]
      simp only [if_neg (show ¬ a < 0 by omega), if_pos (show out.length < 17592186044416 by omega)]
      exact build_ev G hN hrows d (out ++ [a]) (by simp; omega) (hs.next ha)
theorem rorder_in (G : Gr) (hN : G.length ≤ 1000000000) (n : Nat) (hn : n < G.length) (hl : (row G (n : Int)).length ≤ 1000000000) (r : List Int × Int) : ∀ d i : Nat, i + d = (row G (n : Int)).length →
    (chkRow G.length n ((row G (n : Int)).take i) ((row G (n : Int)).drop i) ≠ 0 ∧ r = ([], chkRow G.length n ((row G (n : Int)).take i) ((row G (n : Int)).drop i)) ∨ chkRow G.length n ((row G (n : Int)).take i) ((row G (n : Int)).drop i) = 0 ∧ Ev (fun k => echelonref14_Order.l0 k G ((n + 1 : Nat) : Int)) r) →
    Ev (fun k => echelonref14_Order.l1 k G n (i : Int)) r
  | 0, i, h, hr => by
    rw [List.drop_of_length_le (by omega)] at hr
    simp only [chkRow] at hr
    rcases hr with ⟨h1, _⟩ | ⟨_, h2⟩
    · exact absurd rfl h1
    · exact Ev.step (fun k => by simp only [echelonref14_Order.l1]; rw [if_pos (by omega), if_pos (by omega), rdL_row, if_neg (by omega), inc n (by omega)]) h2
  | d + 1, i, h, hr => by
    obtain ⟨l, hll⟩ : ∃ l, row G (n : Int) = l := ⟨_, rfl⟩
    rw [hll] at hl h hr
    have hlt : i < l.length := by omega
    rw [List.drop_eq_getElem_cons hlt] at hr
    simp only [chkRow] at hr
    have hs : ∀ k b, (decide (l[i] < 0 ∨ (G.length : Int) ≤ l[i] ∨ l[i] = (n : Int))) = b → echelonref14_Order.l1 (k + 1) G n (i : Int) = echelonref14_Order.j2 k G n i l[i] b := by
      intro k b hb
      simp only [echelonref14_Order.l1]
      rw [if_pos (by omega), if_pos (by omega), rdL_row, hll, if_pos (by omega), if_pos (by omega), rd_at l hlt]
      subst hb
      by_cases h1 : l[i] < 0
      · rw [if_pos h1]; congr 1; simp [h1]
      · rw [if_neg h1]
        by_cases h2 : (G.length : Int) ≤ l[i]
        · rw [if_pos h2]; congr 1; simp [h2]
        · rw [if_neg h2]; congr 1; rw [Bool.eq_iff_iff]; simp [h1, h2]
    by_cases hb : l[i] < 0 ∨ (G.length : Int) ≤ l[i] ∨ l[i] = (n : Int)
    · rw [if_pos hb] at hr
      obtain rfl : r = ([], 110) := by
        rcases hr with ⟨_, h⟩ | ⟨h, _⟩
        · exact h
        · omega
      refine Ev.step (fun k => hs k true (decide_eq_true hb)) (Ev.step (f := fun _ => some ([], 110)) (fun k => by simp only [echelonref14_Order.j2]; rw [if_pos trivial]) (Ev.now _))
    · rw [if_neg hb] at hr
      have htl : (l.take i).length ≤ 1000000000 := Nat.le_trans (List.length_take_le _ _) (by omega)
      have C := has_ev (l.take i) l[i] htl
      refine Ev.step (fun k => hs k false (decide_eq_false hb)) (Ev.step (f := fun k => (echelonref14_has.f k (l.take i) l[i]).bind fun t270 => (if t270 = true then (some (([] : List Int), 113)) else (echelonref14_Order.l1 k G n ((i + 1 : Nat) : Int)))) (fun k => by
        simp only [echelonref14_Order.j2]
        rw [if_neg (by simp), if_pos (by omega), if_pos (by omega), if_pos (by omega), rdL_row, hll, if_pos (by omega), Int.toNat_natCast, inc i (by omega)]) (Ev.bind C ?_))
      by_cases hm : l[i] ∈ l.take i
      · rw [if_pos hm] at hr
        obtain rfl : r = ([], 113) := by
          rcases hr with ⟨_, h⟩ | ⟨h, _⟩
          · exact h
          · omega
        simp only [hm, decide_true, if_true]
        exact Ev.now _
      · rw [if_neg hm] at hr
        simp only [hm, decide_false, Bool.false_eq_true, if_false]
        refine rorder_in G hN n hn (by rw [hll]; exact hl) r d (i + 1) (by rw [hll]; omega) ?_
        rw [hll, List.take_succ_eq_append_getElem hlt]
        exact hr
def orE (e : Int) (r : List Int × Int) : List Int × Int := if e ≠ 0 then ([], e) else r
theorem rorder_out (G : Gr) (hN : G.length ≤ 1000000000) (hrows : ∀ y : Nat, y < G.length → (row G (y : Int)).length ≤ 1000000000) (r : List Int × Int) (hr : Ev (fun k => echelonref14_Order.l2 k G []) r) : ∀ d n : Nat, n + d = G.length →
    Ev (fun k => echelonref14_Order.l0 k G (n : Int)) (orE (chkG G.length n (G.drop n)) r)
  | 0, n, h => by
    rw [List.drop_of_length_le (by omega), show orE (chkG G.length n []) r = r from by simp [orE, chkG]]
    exact Ev.step (fun k => by simp only [echelonref14_Order.l0]; rw [if_neg (by omega)]) hr
  | d + 1, n, h => by
    have hlt : n < G.length := by omega
    have ih := rorder_out G hN hrows r hr d (n + 1) (by omega)
    rw [List.drop_eq_getElem_cons hlt]
    simp only [chkG]
    have er : G[n] = row G (n : Int) := (row_at G hlt).symm
    rw [er]
    refine Ev.step (f := fun k => echelonref14_Order.l1 k G n ((0 : Nat) : Int)) (fun k => by
      simp only [echelonref14_Order.l0]
      rw [if_pos (by omega)]
      rfl) ?_
    refine rorder_in G hN n hlt (hrows n hlt) _ (row G (n : Int)).length 0 (by omega) ?_
    rw [List.take_zero, List.drop_zero]
    by_cases hz : chkRow G.length n [] (row G (n : Int)) ≠ 0
    · rw [if_pos hz]
      exact .inl ⟨hz, by unfold orE; rw [if_pos hz]⟩
    · rw [if_neg hz]
      have : chkRow G.length n [] (row G (n : Int)) = 0 := by omega
      exact .inr ⟨this, by rw [show (n : Int) + 1 = ((n + 1 : Nat) : Int) by omega]; exact ih⟩
def ordR (G : Gr) : List Int × Int := if ordE G = 0 then (ordA G, 0) else ([], ordE G)
theorem rorder_ev (G : Gr) (hN : G.length ≤ 1000000000) (hrows : ∀ y : Nat, y < G.length → (row G (y : Int)).length ≤ 1000000000) : Ev (fun k => echelonref14_Order.f k G) (ordR G) := by
  have h2 := build_ev G hN hrows G.length [] (by simp) (St.nil G)
  have := rorder_out G hN hrows _ h2 G.length 0 (by omega)
  rw [List.drop_zero] at this
  have e : orE (chkG G.length ((0 : Nat) : Int) G) (if (ordL G G.length []).length < G.length then (([] : List Int), (111 : Int)) else (ordL G G.length [], 0)) = ordR G := by
    unfold ordR ordE orE
    show (if listsE G ≠ 0 then ([], listsE G) else (if (ordA G).length < G.length then (([] : List Int), (111 : Int)) else (ordA G, 0))) = _
    by_cases h : listsE G ≠ 0
    · rw [if_pos h]; simp [h]
    · rw [if_neg h]
      by_cases h' : (ordA G).length < G.length
      · rw [if_pos h']; simp [h, h']
      · rw [if_neg h']; simp [h, h']
  rw [e] at this
  exact this
end Go.Proofs.Ytkeadpichlgagaa.Wv
