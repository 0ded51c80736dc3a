/- Kept of the text PrC: what is reached (wip/tools/prune.py). -/
import Derived.Test.YtnkpleggmiamdaaVMnD
namespace Go.Proofs.Ytnkpleggmiamdaa.Mo
open Go.RowKit Go.Maps Go.Proofs.YtnkpleggmiamdaaW.PrintWords Go.Proofs.YtnkpleggmiamdaaW.PrintLast Go.Proofs.YtnkpleggmiamdaaW.PrintMore
open Go.Proofs.Ytnkpleggmiamdaa.PSessionParses
set_option linter.unusedVariables false
set_option linter.unusedSimpArgs false
theorem be_inj : ∀ (n : Nat) (x y : List Int), x.length = n → y.length = n → Byt x → Byt y → beN x = beN y → x = y
  | 0, x, y, hx, hy, _, _, _ => by rw [List.length_eq_zero_iff.1 hx, List.length_eq_zero_iff.1 hy]
  | n + 1, x, y, hx, hy, bx, byy, h => by
    rcases List.eq_nil_or_concat x with rfl | ⟨x', a, rfl⟩
    · simp at hx
    rcases List.eq_nil_or_concat y with rfl | ⟨y', c, rfl⟩
    · simp at hy
    simp only [List.concat_eq_append] at *
    rw [beN_snoc, beN_snoc] at h
    have ha := bx a (by simp)
    have hc := byy c (by simp)
    have e : a = c := by omega
    subst e
    rw [be_inj n x' y' (by simpa using hx) (by simpa using hy) (fun z hz => bx z (by simp [hz])) (fun z hz => byy z (by simp [hz])) (by omega)]
theorem dig_ub : ∀ f n, n < 256 ^ (dig f n).length ∨ 256 ^ f ≤ n
  | 0, n => by
    by_cases h : n = 0
    · left; subst h; simp [dig]
    · right; simp; omega
  | f + 1, n => by
    by_cases h : n = 0
    · left; subst h; simp [dig]
    · have e : dig (f + 1) n = ((n % 256 : Nat) : Int) :: dig f (n / 256) := by
        conv => lhs; unfold dig
        rw [if_neg h]
      rw [e, List.length_cons, Nat.pow_succ, Nat.pow_succ]
      rcases dig_ub f (n / 256) with h1 | h1
      · left; omega
      · right; omega
theorem be_top {t : Int} {r : List Int} (ht : 1 ≤ t) (hr : Byt r) : (256 : Int) ^ r.length ≤ beN (t :: r) := by
  generalize hn : r.length = n
  induction n generalizing r with
  | zero => rw [List.length_eq_zero_iff.1 hn]; simp [beN]; omega
  | succ n ih =>
    rcases List.eq_nil_or_concat r with rfl | ⟨r', a, rfl⟩
    · simp at hn
    simp only [List.concat_eq_append] at *
    have := ih (r := r') (fun z hz => hr z (by simp [hz])) (by simpa using hn)
    have ha := hr a (by simp)
    have e : t :: (r' ++ [a]) = (t :: r') ++ [a] := rfl
    rw [e, beN_snoc, Int.pow_succ]
    omega
theorem numS_can {bs : List Int} {n : Int} {r : List Int} (hb : Byt bs) (h : numS bs 0 = (n, r, 0)) : bs = numB n ++ r := by
  have hr := numS_range 0 hb
  rw [h] at hr
  obtain ⟨n0, n1, _, _, _⟩ := hr
  simp only at n0 n1
  unfold numS at h
  rw [if_pos rfl] at h
  cases bs with
  | nil => simp at h
  | cons s t =>
    simp only at h
    have hs := hb s (by simp)
    have ht : Byt t := fun z hz => hb z (by simp [hz])
    split at h
    · simp at h
    · next h1 =>
      split at h
      · simp at h
      · next h2 =>
        cases h
        have hst : s.toNat ≤ t.length := by omega
        have hs8 : s.toNat ≤ 8 := by omega
        generalize hx : t.take s.toNat = x
        have hxl : x.length = s.toNat := by rw [← hx]; simp; omega
        have hxb : Byt x := fun z hz => ht z (by rw [← hx] at hz; exact List.mem_of_mem_take hz)
        have hlt := (beN_lt s.toNat x hxl hxb)
        rw [hx] at n0 n1
        have hd : x = (dig 8 (beN x).toNat).reverse := by
          have hn8 : (beN x).toNat < 256 ^ 8 := by show _ < 18446744073709551616; omega
          have hbe := beN_dig 8 (beN x).toNat hn8
          have hlen : (dig 8 (beN x).toNat).length = s.toNat := by
            cases x with
            | nil =>
              simp only [List.length_nil] at hxl
              have : (beN []).toNat = 0 := by simp [beN]
              rw [this, dig_zero, ← hxl]
              rfl
            | cons a x =>
              have ha0 : a ≠ 0 := by
                intro e
                apply h1
                right
                refine ⟨by simp only [List.length_cons] at hxl; omega, by simp only [List.length_cons] at hxl; omega, ?_⟩
                cases t with
                | nil => simp at hx
                | cons b t =>
                  obtain ⟨m, hm⟩ : ∃ m, s.toNat = m + 1 := ⟨s.toNat - 1, by simp only [List.length_cons] at hxl; omega⟩
                  rw [hm, List.take_succ_cons] at hx
                  cases hx
                  simpa using e
              have ha := hxb a (by simp)
              have htop := be_top (t := a) (r := x) (by omega) (fun z hz => hxb z (by simp [hz]))
              simp only [List.length_cons] at hxl
              rcases Nat.lt_trichotomy (dig 8 (beN (a :: x)).toNat).length s.toNat with hl | hl | hl
              · exfalso
                rcases dig_ub 8 (beN (a :: x)).toNat with hu | hu
                · have h3 : 256 ^ (dig 8 (beN (a :: x)).toNat).length ≤ 256 ^ x.length := Nat.pow_le_pow_right (by decide) (by omega)
                  have h4 : ((256 ^ x.length : Nat) : Int) = (256 : Int) ^ x.length := by simp
                  omega
                · omega
              · exact hl
              · exfalso
                obtain ⟨t', r', e', ht'⟩ := dig_top 8 (beN (a :: x)).toNat (by
                  have : (0 : Int) < (256 : Int) ^ x.length := Int.pow_pos (by decide)
                  omega) hn8
                have hdb : Byt (t' :: r') := fun z hz => dig_byt 8 _ z (by rw [← e'] at hz; exact List.mem_reverse.1 hz)
                have h5 := be_top (t := t') (r := r') (by have := hdb t' (by simp); omega) (fun z hz => hdb z (by simp [hz]))
                rw [e'] at hbe
                have h6 : r'.length + 1 = (dig 8 (beN (a :: x)).toNat).length := by have := congrArg List.length e'; rw [List.length_reverse] at this; rw [this]; rfl
                have h7 : (256 : Nat) ^ s.toNat ≤ 256 ^ r'.length := Nat.pow_le_pow_right (by decide) (by omega)
                have h8 : ((256 ^ s.toNat : Nat) : Int) = (256 : Int) ^ s.toNat := by simp
                have h9 : ((256 ^ r'.length : Nat) : Int) = (256 : Int) ^ r'.length := by simp
                omega
          refine be_inj s.toNat _ _ hxl (by rw [List.length_reverse, hlen]) hxb (fun z hz => dig_byt 8 _ z (List.mem_reverse.1 hz)) ?_
          rw [hbe]
          omega
        unfold numB
        have hl2 : (dig 8 (beN x).toNat).length = s.toNat := by rw [← List.length_reverse, ← hd, hxl]
        rw [hl2, ← hd, ← hx]
        simp only [List.cons_append, List.take_append_drop]
        congr 1
        omega
theorem cnt_can {sm : Bool} {bs : List Int} {n : Int} {r : List Int} (hb : Byt bs) (h : cntS sm bs 0 = (n, r, 0)) : bs = numB n ++ r ∧ 0 ≤ n ∧ (sm = true → n ≤ r.length) := by
  have hr := numS_range 0 hb
  unfold cntS at h
  split at h
  · split at h
    · simp at h
    · next h1 =>
      split at h
      · simp at h
      · rw [h] at hr h1
        refine ⟨numS_can hb h, hr.1, fun hs => ?_⟩
        simp only at h1
        have h1' : ¬ ((r.length : Int) < n) := fun hh => h1 ⟨hs, hh⟩
        omega
  · next h0 => 
    simp only [Prod.mk.injEq] at h
    exact absurd h.2.2 h0
mutual
theorem take_err : ∀ (k : Sh) (bs : List Int) (e : Int), e ≠ 0 → (takeS k bs e).2 = (bs, e)
  | .mk c ks, bs, e, he => by
    have hn := numS_err (bs := bs) he
    have hc : ∀ sm, cntS sm bs e = (0, bs, e) := fun sm => by unfold cntS; rw [hn]; simp [he]
    rw [take_eq]
    split
    · simp [hn]
    · split
      · simp [hc]
      · split
        · cases ks with
          | nil => unfold takeA; rfl
          | cons k ks => rw [takeA_cons, hc]; simp [repT]
        · exact takeL_err ks bs e he
theorem takeL_err : ∀ (ks : List Sh) (bs : List Int) (e : Int), e ≠ 0 → (takeL ks bs e).2 = (bs, e)
  | [], bs, e, he => by rw [takeL_nil]
  | k :: ks, bs, e, he => by
    rw [takeL_cons]
    simp only [take_err k bs e he]
    exact takeL_err ks bs e he
end
theorem rep_can {k : Sh} (hf : ∀ bs v r, Byt bs → takeS k bs 0 = (v, r, 0) → bs = putS k v ++ r ∧ hasS k v = true) : ∀ n bs vs r, Byt bs → repT (takeS k) n bs 0 = (vs, r, 0) → bs = (vs.map (putS k)).flatten ++ r ∧ vs.length = n ∧ vs.all (hasS k) = true
  | 0, bs, vs, r, hb, h => by simp only [repT, Prod.mk.injEq] at h; obtain ⟨rfl, rfl, _⟩ := h; simp
  | n + 1, bs, vs, r, hb, h => by
    unfold repT at h
    split at h
    · next h0 =>
      rw [h0] at h
      have h1 : takeS k bs 0 = ((takeS k bs 0).1, (takeS k bs 0).2.1, 0) := Prod.ext rfl (Prod.ext rfl h0)
      obtain ⟨e1, e2⟩ := hf _ _ _ hb h1
      have hl := (take_left k bs 0 hb).1
      generalize (takeS k bs 0).1 = v at *
      generalize (takeS k bs 0).2.1 = b2 at *
      cases hq : repT (takeS k) n b2 0 with
      | mk vs2 p =>
        rw [hq] at h
        cases h
        obtain ⟨a, b, c⟩ := rep_can hf n b2 vs2 r hl hq
        refine ⟨?_, by simp [b], by simp [e2, c]⟩
        rw [e1, a]
        simp
    · next h0 =>
      exfalso
      simp only [Prod.mk.injEq] at h
      exact h0 (by rw [h.2])
mutual
/-- What a value was read from is its form. -/
theorem take_can : ∀ (k : Sh), Gd k → ∀ bs v r, Byt bs → takeS k bs 0 = (v, r, 0) → bs = putS k v ++ r ∧ hasS k v = true
  | .mk c ks, hg, bs, v, r, hb, h => by
    rw [take_eq] at h
    cases hg with
    | num =>
      rw [if_pos rfl] at h
      simp only [Prod.mk.injEq] at h
      obtain ⟨rfl, h2⟩ := h
      rw [put_eq, if_pos rfl, has_eq]
      exact ⟨numS_can hb (by rw [← h2]), by simp⟩
    | byt =>
      rw [if_neg (by decide), if_pos rfl] at h
      simp only [Prod.mk.injEq] at h
      obtain ⟨rfl, rfl, h3⟩ := h
      have hc : cntS true bs 0 = ((cntS true bs 0).1, (cntS true bs 0).2.1, 0) := Prod.ext rfl (Prod.ext rfl h3)
      obtain ⟨a, b, d⟩ := cnt_can hb hc
      have d := d rfl
      generalize (cntS true bs 0).1 = n at *
      generalize (cntS true bs 0).2.1 = t at *
      rw [put_eq, if_neg (by decide), if_pos rfl, has_eq]
      refine ⟨?_, by simp⟩
      have hl : ((t.take n.toNat).length : Int) = n := by simp; omega
      rw [hl, List.append_assoc, List.take_append_drop]
      exact a
    | @lst k hk =>
      rw [if_neg (by decide), if_neg (by decide), if_pos rfl, takeA_cons] at h
      simp only [Prod.mk.injEq] at h
      obtain ⟨rfl, h2⟩ := h
      cases hc : cntS (someS k) bs 0 with
      | mk n p =>
        obtain ⟨t, e⟩ := p
        rw [hc] at h2
        simp only at h2 ⊢
        by_cases he : e = 0
        · subst he
          obtain ⟨a, b, d⟩ := cnt_can hb hc
          have ht : Byt t := fun z hz => hb z (by rw [a]; simp [hz])
          have hq : repT (takeS k) n.toNat t 0 = ((repT (takeS k) n.toNat t 0).1, r, 0) := by rw [← h2]
          obtain ⟨x, y, z⟩ := rep_can (take_can k hk) _ _ _ _ ht hq
          rw [put_eq, if_neg (by decide), if_neg (by decide), if_pos rfl, putA_cons, has_eq, if_pos rfl, hasA_cons]
          refine ⟨?_, z⟩
          simp only
          rw [y, List.append_assoc, ← x, Int.toNat_of_nonneg b]
          exact a
        · exfalso
          have : n = 0 := by
            have hr := cntS_range (sm := someS k) 0 hb
            rw [hc] at hr
            unfold cntS at hc
            split at hc
            · split at hc
              · cases hc; rfl
              · split at hc
                · cases hc; rfl
                · next h0 _ _ => rw [hc] at h0; exact absurd h0 he
            · cases hc; rfl
          subst this
          simp only [repT, Int.toNat_zero, Prod.mk.injEq] at h2
          exact he h2.2
    | row hk =>
      rw [if_neg (by decide), if_neg (by decide), if_neg (by decide)] at h
      simp only [Prod.mk.injEq] at h
      obtain ⟨rfl, h2⟩ := h
      have hq : takeL ks bs 0 = ((takeL ks bs 0).1, r, 0) := by rw [← h2]
      obtain ⟨a, b, d⟩ := takeL_can ks hk bs _ r hb hq
      rw [put_eq, if_neg (by decide), if_neg (by decide), if_neg (by decide), has_eq, if_neg (by decide), if_pos rfl]
      simp only
      exact ⟨a, by simp [b, d]⟩
theorem takeL_can : ∀ (ks : List Sh), (∀ k ∈ ks, Gd k) → ∀ bs vs r, Byt bs → takeL ks bs 0 = (vs, r, 0) → bs = putL ks vs ++ r ∧ vs.length = ks.length ∧ hasL ks vs = true
  | [], hg, bs, vs, r, hb, h => by
    rw [takeL_nil] at h
    cases h
    simp [putL, hasL]
  | k :: ks, hg, bs, vs, r, hb, h => by
    rw [takeL_cons] at h
    by_cases he : (takeS k bs 0).2.2 = 0
    · rw [he] at h
      have h1 : takeS k bs 0 = ((takeS k bs 0).1, (takeS k bs 0).2.1, 0) := Prod.ext rfl (Prod.ext rfl he)
      obtain ⟨e1, e2⟩ := take_can k (hg k (by simp)) _ _ _ hb h1
      have hl := (take_left k bs 0 hb).1
      generalize (takeS k bs 0).1 = v at *
      generalize (takeS k bs 0).2.1 = b2 at *
      cases hq : takeL ks b2 0 with
      | mk vs2 p =>
        rw [hq] at h
        cases h
        obtain ⟨a, b, c⟩ := takeL_can ks (fun z hz => hg z (by simp [hz])) b2 vs2 r hl hq
        refine ⟨?_, by simp [b], ?_⟩
        · conv => rhs; unfold putL
          rw [e1, a]
          simp
        · conv => lhs; unfold hasL
          rw [e2, c]
          rfl
    · exfalso
      have h2 := congrArg (fun q => q.2) h
      simp only [takeL_err ks _ _ he, Prod.mk.injEq] at h2
      exact he h2.2
end
end Go.Proofs.Ytnkpleggmiamdaa.Mo
