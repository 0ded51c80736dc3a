/- Kept of the text PrD: what is reached (wip/tools/prune.py). -/
import Derived.Test.YtnkpleggmiamdaaVPrB
namespace Go.Proofs.Ytnkpleggmiamdaa.Mo
open Go.RowKit Go.Maps Go.Proofs.YtnkpleggmiamdaaW.PrintWords Go.Proofs.YtnkpleggmiamdaaW.PrintLast Go.Proofs.YtnkpleggmiamdaaW.PrintMore
open Go.Proofs.Ytnkpleggmiamdaa.PSessionParses
set_option linter.unusedVariables false
set_option linter.unusedSimpArgs false
abbrev TkV := Int × List Int × List S105 × Int × Int
def TVR (b : List Int) (v : S105) (t : List Int × Int) (q : TkV) : Prop := q.2.2.2.2 = t.2 ∧ (t.2 = 0 → q = (v.f0, v.f1, v.f2, ((b.length - t.1.length : Nat) : Int), 0))
def TV (b : List Int) (t : S105 × List Int × Int) (q : TkV) : Prop := TVR b t.1 t.2 q
def TkE (b : List Int) (k : Sh) : Prop := ∀ a : Nat, a ≤ b.length → ∃ q, TV b (takeS k (b.drop a) 0) q ∧ Ev (fun n => echelonref01_Take.f n (str (ren k)) b (a : Int)) q
theorem eta105 (x : S105) : (⟨x.f0, x.f1, x.f2⟩ : S105) = x := by cases x; rfl
theorem suf_i {b r a : List Int} {i : Nat} (h : b.drop i = a ++ r) : r = b.drop (b.length - r.length) := by
  have hl := congrArg List.length h
  simp only [List.length_drop, List.length_append] at hl
  have : r = (b.drop i).drop a.length := by rw [h]; simp
  rw [List.drop_drop] at this
  by_cases hr : r.length = 0
  · have : r = [] := List.length_eq_zero_iff.1 hr
    subst this
    simp
  · conv => lhs; rw [this]
    congr 1
    omega
theorem byt_drop {b : List Int} (h : Byt b) (i : Nat) : Byt (b.drop i) := fun z hz => h z (List.mem_of_mem_drop hz)
theorem takeS_suf {b : List Int} (hx : Byt b) {k : Sh} (hg : Gd k) {a : Nat} (h : (takeS k (b.drop a) 0).2.2 = 0) : (takeS k (b.drop a) 0).2.1 = b.drop (b.length - (takeS k (b.drop a) 0).2.1.length) := by
  have h1 : takeS k (b.drop a) 0 = ((takeS k (b.drop a) 0).1, (takeS k (b.drop a) 0).2.1, 0) := Prod.ext rfl (Prod.ext rfl h)
  exact suf_i (take_can k hg _ _ _ (byt_drop hx a) h1).1
theorem tk_l0 (b : List Int) (hx : Byt b) (ks : List Sh) (hg : ∀ k ∈ ks, Gd k) (hl : ks.length ≤ 1000) (ih : ∀ k ∈ ks, TkE b k) : ∀ (d i a : Nat) (out : List S105), i + d = ks.length → a ≤ b.length → out.length = i →
    ∃ q, TVR b ⟨0, [], out ++ (takeL (ks.drop i) (b.drop a) 0).1⟩ (takeL (ks.drop i) (b.drop a) 0).2 q ∧ Ev (fun n => echelonref01_Take.l0 n b (a : Int) (strs ks) (i : Int) 0 out) q
  | 0, i, a, out, h, ha, ho => by
    refine ⟨(0, [], out, (a : Int), 0), ?_, Ev.step (f := fun n => some (0, [], out, (a : Int), 0)) (fun n => ?_) (Ev.now _)⟩
    · rw [List.drop_of_length_le (by omega), takeL_nil]
      refine ⟨rfl, fun _ => ?_⟩
      simp only [List.append_nil, List.length_drop]
      congr
      omega
    · conv => lhs; unfold echelonref01_Take.l0
      rw [if_neg (by rw [strs_len]; omega)]
  | d + 1, i, a, out, h, ha, ho => by
    have hi : i < ks.length := by omega
    have gk := hg _ (List.getElem_mem hi)
    obtain ⟨q1, ⟨hq1, hq2⟩, hE⟩ := ih _ (List.getElem_mem hi) a ha
    rw [List.drop_eq_getElem_cons hi, takeL_cons]
    have hcn : ∀ q, Ev (fun n => (if q1.2.2.2.2 = 0 then (if out.length < 2513169434916 then (echelonref01_Take.l0 n b q1.2.2.2.1 (strs ks) ((i + 1 : Nat) : Int) 0 (out ++ [(⟨q1.1, q1.2.1, q1.2.2.1⟩ : S105)])) else (none)) else (some (0, ([] : List Int), ([] : List (S105)), (a : Int), q1.2.2.2.2)))) q → Ev (fun n => echelonref01_Take.l0 n b (a : Int) (strs ks) (i : Int) 0 out) q := fun q hq => by
      refine Ev.step (f := fun n => (echelonref01_Take.f n (str (ren ks[i])) b (a : Int)).bind fun bt207 => (if bt207.2.2.2.2 = 0 then (if out.length < 2513169434916 then (echelonref01_Take.l0 n b bt207.2.2.2.1 (strs ks) ((i + 1 : Nat) : Int) 0 (out ++ [(⟨bt207.1, bt207.2.1, bt207.2.2.1⟩ : S105)])) else (none)) else (some (0, ([] : List Int), ([] : List (S105)), (a : Int), bt207.2.2.2.2)))) (fun n => ?_) (Ev.bind hE hq)
      conv => lhs; unfold echelonref01_Take.l0
      rw [if_pos (by rw [strs_len]; omega), if_pos (by omega), rd_strs hi, w_succ (by omega)]
    by_cases he : (takeS ks[i] (b.drop a) 0).2.2 = 0
    · have hq := hq2 he
      have hs := takeS_suf hx gk he
      rw [he, hs]
      obtain ⟨q, hT, hE2⟩ := tk_l0 b hx ks hg hl ih d (i + 1) (b.length - (takeS ks[i] (b.drop a) 0).2.1.length) (out ++ [(takeS ks[i] (b.drop a) 0).1]) (by omega) (Nat.sub_le _ _) (by simp [ho])
      refine ⟨q, ?_, hcn q ?_⟩
      · simp only [List.append_assoc, List.singleton_append] at hT
        exact hT
      · rw [hq]
        simp only [if_true, show (out.length < 2513169434916) = True from eq_true (by omega), eta105]
        exact hE2
    · have he1 := takeL_err (ks.drop (i + 1)) (takeS ks[i] (b.drop a) 0).2.1 (takeS ks[i] (b.drop a) 0).2.2 he
      refine ⟨(0, [], [], (a : Int), (takeS ks[i] (b.drop a) 0).2.2), ?_, hcn _ ?_⟩
      · simp only [he1]
        exact ⟨rfl, fun h0 => absurd h0 he⟩
      · rw [hq1]
        simp only [he, if_false]
        exact Ev.now _
theorem tk_l1 (b : List Int) (hx : Byt b) (hb : b.length ≤ 1000000) (k : Sh) (hg : Gd k) (ih : TkE b k) (n0 : Nat) (hn : n0 ≤ 1048576) : ∀ (d i a : Nat) (out : List S105), i + d = n0 → a ≤ b.length → out.length = i →
    ∃ q, TVR b ⟨0, [], out ++ (repT (takeS k) d (b.drop a) 0).1⟩ (repT (takeS k) d (b.drop a) 0).2 q ∧ Ev (fun n => echelonref01_Take.l1 n (str (42 :: ren k)) b (a : Int) (n0 : Int) (i : Int) 0 out) q
  | 0, i, a, out, h, ha, ho => by
    refine ⟨(0, [], out, (a : Int), 0), ?_, Ev.step (f := fun n => some (0, [], out, (a : Int), 0)) (fun n => ?_) (Ev.now _)⟩
    · simp only [repT]
      refine ⟨rfl, fun _ => ?_⟩
      simp only [List.append_nil, List.length_drop]
      congr
      omega
    · have hw : wrap64 (n0 : Int) = (n0 : Int) := by unfold wrap64; omega
      conv => lhs; unfold echelonref01_Take.l1
      rw [hw, if_neg (by omega)]
  | d + 1, i, a, out, h, ha, ho => by
    obtain ⟨q1, ⟨hq1, hq2⟩, hE⟩ := ih a ha
    have hw : wrap64 (n0 : Int) = (n0 : Int) := by unfold wrap64; omega
    have hwi : wrap64 ((i : Int) + 1) = ((i + 1 : Nat) : Int) := by unfold wrap64; omega
    have hcn : ∀ q, Ev (fun n => (if q1.2.2.2.2 = 0 then (if out.length < 2513169434916 then (echelonref01_Take.l1 n (str (42 :: ren k)) b q1.2.2.2.1 (n0 : Int) ((i + 1 : Nat) : Int) 0 (out ++ [(⟨q1.1, q1.2.1, q1.2.2.1⟩ : S105)])) else (none)) else (some (0, ([] : List Int), ([] : List (S105)), (a : Int), q1.2.2.2.2)))) q → Ev (fun n => echelonref01_Take.l1 n (str (42 :: ren k)) b (a : Int) (n0 : Int) (i : Int) 0 out) q := fun q hq => by
      refine Ev.step (f := fun n => (echelonref01_Take.f n (str (ren k)) b (a : Int)).bind fun bt207 => (if bt207.2.2.2.2 = 0 then (if out.length < 2513169434916 then (echelonref01_Take.l1 n (str (42 :: ren k)) b bt207.2.2.2.1 (n0 : Int) ((i + 1 : Nat) : Int) 0 (out ++ [(⟨bt207.1, bt207.2.1, bt207.2.2.1⟩ : S105)])) else (none)) else (some (0, ([] : List Int), ([] : List (S105)), (a : Int), bt207.2.2.2.2)))) (fun n => ?_) (Ev.bind hE hq)
      conv => lhs; unfold echelonref01_Take.l1
      rw [hw, if_pos (by omega), if_pos (by rw [str_size, List.length_cons]; omega), str_tail, hwi]
    unfold repT
    by_cases he : (takeS k (b.drop a) 0).2.2 = 0
    · have hq := hq2 he
      have hs := takeS_suf hx hg he
      rw [if_pos he, he, hs]
      obtain ⟨q, hT, hE2⟩ := tk_l1 b hx hb k hg ih n0 hn d (i + 1) (b.length - (takeS k (b.drop a) 0).2.1.length) (out ++ [(takeS k (b.drop a) 0).1]) (by omega) (Nat.sub_le _ _) (by simp [ho])
      refine ⟨q, ?_, hcn q ?_⟩
      · simp only [List.append_assoc, List.singleton_append] at hT
        exact hT
      · rw [hq]
        simp only [if_true, show (out.length < 2513169434916) = True from eq_true (by omega), eta105]
        exact hE2
    · rw [if_neg he]
      refine ⟨(0, [], [], (a : Int), (takeS k (b.drop a) 0).2.2), ?_, hcn _ ?_⟩
      · exact ⟨rfl, fun h0 => absurd h0 he⟩
      · rw [hq1]
        simp only [he, if_false]
        exact Ev.now _
theorem j1_step (x0 : ByteArray) (b : List Int) (a : Nat) (n : Int) (sm : Bool) (ha : a ≤ b.length) (hb : b.length ≤ 1000000) (h0 : 0 ≤ n) (k : Nat) : echelonref01_Take.j1 (k + 1) x0 b (a : Int) n sm 0 = echelonref01_Take.j2 k x0 b (a : Int) n sm (sm && decide (n > ((b.length - a : Nat) : Int))) 0 := by
  have e : IntKind.u64.wrap (wrap64 ((b.length : Int) - (a : Int))) = ((b.length - a : Nat) : Int) := by
    have hw : wrap64 ((b.length : Int) - (a : Int)) = ((b.length - a : Nat) : Int) := by unfold wrap64; omega
    rw [hw]
    exact u64_big (by omega) (by omega)
  conv => lhs; unfold echelonref01_Take.j1
  cases sm with
  | true => rw [if_pos rfl, e]; rfl
  | false => rw [if_neg (by decide)]; rfl
theorem j1_11 {x0 : ByteArray} {b : List Int} {a : Nat} {n : Int} (ha : a ≤ b.length) (hb : b.length ≤ 1000000) (h0 : 0 ≤ n) (h : ((b.length - a : Nat) : Int) < n) : Ev (fun k => echelonref01_Take.j1 k x0 b (a : Int) n true 0) (0, [], [], (a : Int), 11) := by
  refine Ev.step (f := fun k => echelonref01_Take.j2 k x0 b (a : Int) n true true 0) (fun k => ?_) (Ev.step (f := fun k => _) (fun k => ?_) (Ev.now _))
  · rw [j1_step x0 b a n true ha hb h0 k, decide_eq_true (show n > ((b.length - a : Nat) : Int) from h)]
    rfl
  · conv => lhs; unfold echelonref01_Take.j2
    rw [if_pos rfl]
theorem j1_13 {x0 : ByteArray} {b : List Int} {a : Nat} {n : Int} (ha : a ≤ b.length) (hb : b.length ≤ 1000000) (h0 : 0 ≤ n) (h : 1048576 < n) : Ev (fun k => echelonref01_Take.j1 k x0 b (a : Int) n false 0) (0, [], [], (a : Int), 13) := by
  refine Ev.step (f := fun k => echelonref01_Take.j2 k x0 b (a : Int) n false false 0) (fun k => ?_) (Ev.step (f := fun k => echelonref01_Take.j3 k x0 b (a : Int) n true 0) (fun k => ?_) (Ev.step (f := fun k => _) (fun k => ?_) (Ev.now _)))
  · rw [j1_step x0 b a n false ha hb h0 k]
    rfl
  · conv => lhs; unfold echelonref01_Take.j2
    rw [if_neg (by decide), if_pos (by omega)]
    rfl
  · conv => lhs; unfold echelonref01_Take.j3
    rw [if_pos rfl]
theorem j1_ok {x0 : ByteArray} {b : List Int} {a : Nat} {n : Int} {sm : Bool} (ha : a ≤ b.length) (hb : b.length ≤ 1000000) (h0 : 0 ≤ n) (h1 : sm = true → n ≤ ((b.length - a : Nat) : Int)) (h2 : sm = false → n ≤ 1048576) {q : TkV} (hq : Ev (fun k => echelonref01_Take.j3 k x0 b (a : Int) n false 0) q) : Ev (fun k => echelonref01_Take.j1 k x0 b (a : Int) n sm 0) q := by
  refine Ev.step (f := fun k => echelonref01_Take.j2 k x0 b (a : Int) n sm false 0) (fun k => ?_) (Ev.step (f := fun k => echelonref01_Take.j3 k x0 b (a : Int) n false 0) (fun k => ?_) hq)
  · rw [j1_step x0 b a n sm ha hb h0 k]
    congr 1
    cases sm with
    | false => rfl
    | true => simp; have := h1 rfl; omega
  · conv => lhs; unfold echelonref01_Take.j2
    rw [if_neg (by decide)]
    cases sm with
    | false => rw [if_neg (by have := h2 rfl; omega)]
    | true => split <;> rfl
theorem j3_byt (b : List Int) (a n : Nat) (h : a + n ≤ b.length) (hb : b.length ≤ 1000000) : Ev (fun k => echelonref01_Take.j3 k (str [98]) b (a : Int) (n : Int) false 0) (0, (b.take (a + n)).drop a, [], ((a + n : Nat) : Int), 0) := by
  have c1 : (0 : Int) ≤ (a : Int) := by omega
  have c2 : (a : Int) ≤ ((a + n : Nat) : Int) := by omega
  have c3 : ((a + n : Nat) : Int) ≤ (b.length : Int) := by omega
  have c4 : ([] : List Int).length + ((b.take (((a + n : Nat) : Int)).toNat).drop ((a : Int)).toNat).length < 140737488355328 := by
    simp only [List.length_nil, List.length_drop, List.length_take, Int.toNat_natCast]
    omega
  have hw : wrap64 (n : Int) = (n : Int) := by unfold wrap64; omega
  have hw2 : wrap64 ((a : Int) + (n : Int)) = ((a + n : Nat) : Int) := by unfold wrap64; omega
  refine Ev.step (f := fun n => _) (fun k => ?_) (Ev.now _)
  conv => lhs; unfold echelonref01_Take.j3
  rw [if_neg (by decide), if_pos (by rw [str_size]; decide), bt_0, if_pos (by decide), if_pos c1, hw, hw2, if_pos c2, if_pos c3, if_pos c4]
  simp only [Int.toNat_natCast, List.nil_append]
theorem numS_suf {b : List Int} (hx : Byt b) {a : Nat} (h : (numS (b.drop a) 0).2.2 = 0) : (numS (b.drop a) 0).2.1 = b.drop (b.length - (numS (b.drop a) 0).2.1.length) := by
  have h1 : numS (b.drop a) 0 = ((numS (b.drop a) 0).1, (numS (b.drop a) 0).2.1, 0) := Prod.ext rfl (Prod.ext rfl h)
  exact suf_i (numS_can (byt_drop hx a) h1)
set_option maxHeartbeats 1000000 in
theorem take_val (b : List Int) (hx : Byt b) (hb : b.length ≤ 1000000) : ∀ (k : Sh), Gd k → dep k ≤ 9 → (ren k).length ≤ 1000 → TkE b k
  | .mk c ks, hg, hd, hl => fun a ha => by
    have hnum := rnumber_val b hb hx a ha
    have hrg := numS_range 0 (byt_drop hx a)
    have hsf := numS_suf hx (a := a)
    rw [take_eq]
    cases hg with
    | row h =>
      rw [dep_eq] at hd
      obtain ⟨hl1, hl2⟩ := rowlen h hl
      have hr := rows_val h hd hl
      obtain ⟨q, hT, hE⟩ := tk_l0 b hx ks h hl1 (fun k hk => take_val b hx hb k (h k hk) (by have := dep_mem hk; omega) (hl2 k hk)) ks.length 0 a [] (by omega) ha rfl
      rw [if_neg (by decide), if_neg (by decide), if_neg (by decide)]
      refine ⟨q, hT, ?_⟩
      refine Ev.step (f := fun n => (echelonref01_rows.f n (str (ren (.mk 91 ks)))).bind fun t203 => (echelonref01_Take.l0 n b (a : Int) t203 0 0 ([] : List (S105)))) (fun n => ?_) (Ev.bind hr hE)
      conv => lhs; unfold echelonref01_Take.f
      rw [ren_row, if_pos (by rw [str_size, List.length_cons]; omega), bt_0, if_pos (by decide)]
    | num =>
      rw [if_pos rfl]
      generalize numS (b.drop a) 0 = m at *
      by_cases he : m.2.2 = 0
      · refine ⟨(m.1, [], [], ((b.length - m.2.1.length : Nat) : Int), 0), ⟨he.symm, fun _ => rfl⟩, ?_⟩
        refine Ev.step (f := fun n => _) (fun n => ?_) (Ev.bind hnum (f := fun n bt220 => if bt220.2.2 = 0 then (some (bt220.1, ([] : List Int), ([] : List (S105)), bt220.2.1, 0)) else (some (0, ([] : List Int), ([] : List (S105)), (a : Int), bt220.2.2))) ?_)
        · conv => lhs; unfold echelonref01_Take.f
          rw [ren_num, if_pos (by rw [str_size, List.length_cons]; omega), bt_0, if_neg (by decide)]
          rfl
        · simp only [he, if_true]
          exact Ev.now _
      · refine ⟨(0, [], [], (a : Int), m.2.2), ⟨rfl, fun h => absurd h he⟩, ?_⟩
        refine Ev.step (f := fun n => _) (fun n => ?_) (Ev.bind hnum (f := fun n bt220 => if bt220.2.2 = 0 then (some (bt220.1, ([] : List Int), ([] : List (S105)), bt220.2.1, 0)) else (some (0, ([] : List Int), ([] : List (S105)), (a : Int), bt220.2.2))) ?_)
        · conv => lhs; unfold echelonref01_Take.f
          rw [ren_num, if_pos (by rw [str_size, List.length_cons]; omega), bt_0, if_neg (by decide)]
          rfl
        · simp only [he, if_false]
          exact Ev.now _
    | byt =>
      rw [if_neg (by decide), if_pos rfl]
      unfold cntS
      generalize numS (b.drop a) 0 = m at *
      have hstep : ∀ q, Ev (fun n => if m.2.2 = 0 then (echelonref01_Take.j1 n (str [98]) b ((b.length - m.2.1.length : Nat) : Int) m.1 true 0) else (some (0, ([] : List Int), ([] : List (S105)), (a : Int), m.2.2))) q → Ev (fun n => echelonref01_Take.f n (str (ren (.mk 98 []))) b (a : Int)) q := fun q hq => by
        refine Ev.step (f := fun n => _) (fun n => ?_) (Ev.bind hnum (f := fun n bt220 => if bt220.2.2 = 0 then (echelonref01_Take.j1 n (str [98]) b bt220.2.1 bt220.1 true 0) else (some (0, ([] : List Int), ([] : List (S105)), (a : Int), bt220.2.2))) hq)
        conv => lhs; unfold echelonref01_Take.f
        rw [ren_byt, if_pos (by rw [str_size, List.length_cons]; omega), bt_0, if_neg (by decide)]
        rfl
      have hml : m.2.1.length ≤ b.length := by have := hrg.2.2.2.2; simp only [List.length_drop] at this; omega
      by_cases he : m.2.2 = 0
      · rw [if_pos he]
        by_cases h11 : (m.2.1.length : Int) < m.1
        · rw [if_pos ⟨rfl, h11⟩]
          refine ⟨(0, [], [], ((b.length - m.2.1.length : Nat) : Int), 11), ⟨rfl, fun h => by simp at h⟩, hstep _ ?_⟩
          simp only [he, if_true]
          exact j1_11 (Nat.sub_le _ _) hb hrg.1 (by omega)
        · rw [if_neg (fun h => h11 h.2), if_neg (fun h => by simp at h)]
          refine ⟨_, ⟨he.symm, fun _ => rfl⟩, hstep _ ?_⟩
          simp only [he, if_true]
          refine j1_ok (Nat.sub_le _ _) hb hrg.1 (fun _ => by omega) (fun h => by simp at h) ?_
          have hm0 := hrg.1
          obtain ⟨n, hn⟩ : ∃ n : Nat, m.1 = (n : Int) := ⟨m.1.toNat, by omega⟩
          have hle : b.length - m.2.1.length + n ≤ b.length := by omega
          have hj := j3_byt b (b.length - m.2.1.length) n hle hb
          have hss := hsf he
          have e1 : (b.take (b.length - m.2.1.length + n)).drop (b.length - m.2.1.length) = m.2.1.take n := by
            rw [List.drop_take, Nat.add_sub_cancel_left, ← hss]
          rw [e1] at hj
          have e2 : ((b.length - (m.2.1.drop n).length : Nat) : Int) = ((b.length - m.2.1.length + n : Nat) : Int) := by
            rw [List.length_drop]
            omega
          rw [hn, Int.toNat_natCast, e2]
          exact hj
      · rw [if_neg he]
        refine ⟨(0, [], [], (a : Int), m.2.2), ⟨rfl, fun h => absurd h he⟩, hstep _ ?_⟩
        simp only [he, if_false]
        exact Ev.now _
    | @lst k h =>
      rw [dep_eq, depL_cons, depL_nil] at hd
      rw [ren_lst, List.length_cons] at hl
      have hsv := some_val k h (by omega) (by omega)
      have ih := take_val b hx hb k h (by omega) (by omega)
      rw [if_neg (by decide), if_neg (by decide), if_pos rfl, takeA_cons]
      unfold cntS
      generalize numS (b.drop a) 0 = m at *
      have hstep : ∀ q, Ev (fun n => if m.2.2 = 0 then (echelonref01_Take.j1 n (str (42 :: ren k)) b ((b.length - m.2.1.length : Nat) : Int) m.1 (someS k) 0) else (some (0, ([] : List Int), ([] : List (S105)), (a : Int), m.2.2))) q → Ev (fun n => echelonref01_Take.f n (str (ren (.mk 42 [k]))) b (a : Int)) q := fun q hq => by
        have hq2 : Ev (fun n => if m.2.2 = 0 then ((echelonref01_Some.f n (str (ren k))).bind fun t223 => (echelonref01_Take.j1 n (str (42 :: ren k)) b ((b.length - m.2.1.length : Nat) : Int) m.1 t223 0)) else (some (0, ([] : List Int), ([] : List (S105)), (a : Int), m.2.2))) q := by
          by_cases he : m.2.2 = 0
          · simp only [he, if_true] at hq ⊢
            exact Ev.bind hsv hq
          · simp only [he, if_false] at hq ⊢
            exact hq
        refine Ev.step (f := fun n => _) (fun n => ?_) (Ev.bind hnum (f := fun n bt220 => if bt220.2.2 = 0 then ((echelonref01_Some.f n (str (ren k))).bind fun t223 => (echelonref01_Take.j1 n (str (42 :: ren k)) b bt220.2.1 bt220.1 t223 0)) else (some (0, ([] : List Int), ([] : List (S105)), (a : Int), bt220.2.2))) hq2)
        conv => lhs; unfold echelonref01_Take.f
        rw [ren_lst, if_pos (by rw [str_size, List.length_cons]; omega), bt_0, if_neg (by decide), str_tail]
        simp only [str_size, List.length_cons, show ((1 : Int) ≤ (((ren k).length + 1 : Nat) : Int)) = True from eq_true (by omega), if_true]
        rfl
      have hml : m.2.1.length ≤ b.length := by have := hrg.2.2.2.2; simp only [List.length_drop] at this; omega
      by_cases he : m.2.2 = 0
      · rw [if_pos he]
        by_cases h11 : someS k = true ∧ (m.2.1.length : Int) < m.1
        · rw [if_pos h11]
          refine ⟨(0, [], [], ((b.length - m.2.1.length : Nat) : Int), 11), ⟨by simp [repT], fun h => by simp [repT] at h⟩, hstep _ ?_⟩
          simp only [he, if_true, h11.1]
          exact j1_11 (Nat.sub_le _ _) hb hrg.1 (by omega)
        · rw [if_neg h11]
          by_cases h13 : someS k = false ∧ 1048576 < m.1
          · rw [if_pos h13]
            refine ⟨(0, [], [], ((b.length - m.2.1.length : Nat) : Int), 13), ⟨by simp [repT], fun h => by simp [repT] at h⟩, hstep _ ?_⟩
            simp only [he, if_true, h13.1]
            exact j1_13 (Nat.sub_le _ _) hb hrg.1 h13.2
          · rw [if_neg h13]
            have hm0 := hrg.1
            have hs1 : someS k = true → m.1 ≤ (m.2.1.length : Int) := fun h => by
              have : ¬ ((m.2.1.length : Int) < m.1) := fun h' => h11 ⟨h, h'⟩
              omega
            have hs2 : someS k = false → m.1 ≤ 1048576 := fun h => by
              have : ¬ (1048576 < m.1) := fun h' => h13 ⟨h, h'⟩
              omega
            obtain ⟨n, hn⟩ : ∃ n : Nat, m.1 = (n : Int) := ⟨m.1.toNat, by omega⟩
            have hnb : n ≤ 1048576 := by
              cases hs : someS k with
              | true => have := hs1 hs; omega
              | false => have := hs2 hs; omega
            obtain ⟨q, hT, hE⟩ := tk_l1 b hx hb k h ih n hnb n 0 (b.length - m.2.1.length) [] (by omega) (Nat.sub_le _ _) rfl
            have hss := hsf he
            rw [he]
            rw [hn, Int.toNat_natCast]
            rw [← hss] at hT
            refine ⟨q, hT, hstep _ ?_⟩
            simp only [he, if_true]
            refine j1_ok (Nat.sub_le _ _) hb hrg.1 (fun h => by have := hs1 h; omega) hs2 ?_
            refine Ev.step (f := fun n' => echelonref01_Take.l1 n' (str (42 :: ren k)) b ((b.length - m.2.1.length : Nat) : Int) (n : Int) 0 0 []) (fun n' => ?_) hE
            conv => lhs; unfold echelonref01_Take.j3
            rw [if_neg (by decide), if_pos (by rw [str_size, List.length_cons]; omega), bt_0, if_neg (by decide), hn]
      · rw [if_neg he]
        have hz := hrg.2.2.1 he
        refine ⟨(0, [], [], (a : Int), m.2.2), ⟨by simp [repT], fun h => by simp [repT] at h; exact absurd h he⟩, hstep _ ?_⟩
        simp only [he, if_false]
        exact Ev.now _
end Go.Proofs.Ytnkpleggmiamdaa.Mo
