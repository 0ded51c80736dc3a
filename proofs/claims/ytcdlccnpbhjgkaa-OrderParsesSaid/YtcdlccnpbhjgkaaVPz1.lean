/- Kept of the text Pz1: what is reached (wip/tools/prune.py). -/
import Derived.Test.YtcdlccnpbhjgkaaVPy3
import Derived.Test.YtcdlccnpbhjgkaaVPq5
import Derived.Test.YtcdlccnpbhjgkaaVPq7
import Derived.Test.YtcdlccnpbhjgkaaVPq8
import Derived.Test.YtcdlccnpbhjgkaaVPq9
import Derived.Test.YtcdlccnpbhjgkaaVPq10
namespace Go.Proofs.Ytcdlccnpbhjgkaa.Oo
open Go.RowKit Go.Maps Go.Proofs.YtcdlccnpbhjgkaaW.PrintWords Go.Proofs.YtcdlccnpbhjgkaaW.PrintLast Go.Proofs.YtcdlccnpbhjgkaaW.PrintMore
open Go.Proofs.Ytcdlccnpbhjgkaa.POrderBytes
set_option linter.unusedVariables false
set_option linter.unusedSimpArgs false
theorem be_inj : ∀ (n : Nat) (x y : List Int), x.length = n → y.length = n → Byt x → Byt y → beN x = beN y → x = y
  | 0, x, y, hx, hy, _, _, _ => by rw [List.length_eq_zero_iff.1 hx, List.length_eq_zero_iff.1 hy]
  | n + 1, x, y, hx, hy, bx, byy, h => by
    rcases List.eq_nil_or_concat x with rfl | ⟨x', a, rfl⟩
    · simp at hx
    rcases List.eq_nil_or_concat y with rfl | ⟨y', c, rfl⟩
    · simp at hy
    simp only [List.concat_eq_append] at *
    rw [beN_snoc, beN_snoc] at h
    have ha := bx a (by simp)
    have hc := byy c (by simp)
    have e : a = c := by omega
    subst e
    rw [be_inj n x' y' (by simpa using hx) (by simpa using hy) (fun z hz => bx z (by simp [hz])) (fun z hz => byy z (by simp [hz])) (by omega)]
theorem dig_ub : ∀ f n, n < 256 ^ (dig f n).length ∨ 256 ^ f ≤ n
  | 0, n => by
    by_cases h : n = 0
    · left; subst h; simp [dig]
    · right; simp; omega
  | f + 1, n => by
    by_cases h : n = 0
    · left; subst h; simp [dig]
    · have e : dig (f + 1) n = ((n % 256 : Nat) : Int) :: dig f (n / 256) := by
        conv => lhs; unfold dig
        rw [if_neg h]
      rw [e, List.length_cons, Nat.pow_succ, Nat.pow_succ]
      rcases dig_ub f (n / 256) with h1 | h1
      · left; omega
      · right; omega
theorem be_top {t : Int} {r : List Int} (ht : 1 ≤ t) (hr : Byt r) : (256 : Int) ^ r.length ≤ beN (t :: r) := by
  generalize hn : r.length = n
  induction n generalizing r with
  | zero => rw [List.length_eq_zero_iff.1 hn]; simp [beN]; omega
  | succ n ih =>
    rcases List.eq_nil_or_concat r with rfl | ⟨r', a, rfl⟩
    · simp at hn
    simp only [List.concat_eq_append] at *
    have := ih (r := r') (fun z hz => hr z (by simp [hz])) (by simpa using hn)
    have ha := hr a (by simp)
    have e : t :: (r' ++ [a]) = (t :: r') ++ [a] := rfl
    rw [e, beN_snoc, Int.pow_succ]
    omega
theorem numS_can {bs : List Int} {n : Int} {r : List Int} (hb : Byt bs) (h : numS bs 0 = (n, r, 0)) : bs = numB n ++ r := by
  have hr := numS_range 0 hb
  rw [h] at hr
  obtain ⟨n0, n1, _, _, _⟩ := hr
  simp only at n0 n1
  unfold numS at h
  rw [if_pos rfl] at h
  cases bs with
  | nil => simp at h
  | cons s t =>
    simp only at h
    have hs := hb s (by simp)
    have ht : Byt t := fun z hz => hb z (by simp [hz])
    split at h
    · simp at h
    · next h1 =>
      split at h
      · simp at h
      · next h2 =>
        cases h
        have hst : s.toNat ≤ t.length := by omega
        have hs8 : s.toNat ≤ 8 := by omega
        generalize hx : t.take s.toNat = x
        have hxl : x.length = s.toNat := by rw [← hx]; simp; omega
        have hxb : Byt x := fun z hz => ht z (by rw [← hx] at hz; exact List.mem_of_mem_take hz)
        have hlt := (beN_lt s.toNat x hxl hxb)
        rw [hx] at n0 n1
        have hd : x = (dig 8 (beN x).toNat).reverse := by
          have hn8 : (beN x).toNat < 256 ^ 8 := by show _ < 18446744073709551616; omega
          have hbe := beN_dig 8 (beN x).toNat hn8
          have hlen : (dig 8 (beN x).toNat).length = s.toNat := by
            cases x with
            | nil =>
              simp only [List.length_nil] at hxl
              have : (beN []).toNat = 0 := by simp [beN]
              rw [this, dig_zero, ← hxl]
              rfl
            | cons a x =>
              have ha0 : a ≠ 0 := by
                intro e
                apply h1
                right
                refine ⟨by simp only [List.length_cons] at hxl; omega, by simp only [List.length_cons] at hxl; omega, ?_⟩
                cases t with
                | nil => simp at hx
                | cons b t =>
                  obtain ⟨m, hm⟩ : ∃ m, s.toNat = m + 1 := ⟨s.toNat - 1, by simp only [List.length_cons] at hxl; omega⟩
                  rw [hm, List.take_succ_cons] at hx
                  cases hx
                  simpa using e
              have ha := hxb a (by simp)
              have htop := be_top (t := a) (r := x) (by omega) (fun z hz => hxb z (by simp [hz]))
              simp only [List.length_cons] at hxl
              rcases Nat.lt_trichotomy (dig 8 (beN (a :: x)).toNat).length s.toNat with hl | hl | hl
              · exfalso
                rcases dig_ub 8 (beN (a :: x)).toNat with hu | hu
                · have h3 : 256 ^ (dig 8 (beN (a :: x)).toNat).length ≤ 256 ^ x.length := Nat.pow_le_pow_right (by decide) (by omega)
                  have h4 : ((256 ^ x.length : Nat) : Int) = (256 : Int) ^ x.length := by simp
                  omega
                · omega
              · exact hl
              · exfalso
                obtain ⟨t', r', e', ht'⟩ := dig_top 8 (beN (a :: x)).toNat (by
                  have : (0 : Int) < (256 : Int) ^ x.length := Int.pow_pos (by decide)
                  omega) hn8
                have hdb : Byt (t' :: r') := fun z hz => dig_byt 8 _ z (by rw [← e'] at hz; exact List.mem_reverse.1 hz)
                have h5 := be_top (t := t') (r := r') (by have := hdb t' (by simp); omega) (fun z hz => hdb z (by simp [hz]))
                rw [e'] at hbe
                have h6 : r'.length + 1 = (dig 8 (beN (a :: x)).toNat).length := by have := congrArg List.length e'; rw [List.length_reverse] at this; rw [this]; rfl
                have h7 : (256 : Nat) ^ s.toNat ≤ 256 ^ r'.length := Nat.pow_le_pow_right (by decide) (by omega)
                have h8 : ((256 ^ s.toNat : Nat) : Int) = (256 : Int) ^ s.toNat := by simp
                have h9 : ((256 ^ r'.length : Nat) : Int) = (256 : Int) ^ r'.length := by simp
                omega
          refine be_inj s.toNat _ _ hxl (by rw [List.length_reverse, hlen]) hxb (fun z hz => dig_byt 8 _ z (List.mem_reverse.1 hz)) ?_
          rw [hbe]
          omega
        unfold numB
        have hl2 : (dig 8 (beN x).toNat).length = s.toNat := by rw [← List.length_reverse, ← hd, hxl]
        rw [hl2, ← hd, ← hx]
        simp only [List.cons_append, List.take_append_drop]
        congr 1
        omega
theorem cnt_can {sm : Bool} {bs : List Int} {n : Int} {r : List Int} (hb : Byt bs) (h : cntS sm bs 0 = (n, r, 0)) : bs = numB n ++ r ∧ 0 ≤ n ∧ (sm = true → n ≤ r.length) := by
  have hr := numS_range 0 hb
  unfold cntS at h
  split at h
  · split at h
    · simp at h
    · next h1 =>
      split at h
      · simp at h
      · rw [h] at hr h1
        refine ⟨numS_can hb h, hr.1, fun hs => ?_⟩
        simp only at h1
        have h1' : ¬ ((r.length : Int) < n) := fun hh => h1 ⟨hs, hh⟩
        omega
  · next h0 => 
    simp only [Prod.mk.injEq] at h
    exact absurd h.2.2 h0
mutual
theorem take_err : ∀ (k : Sh) (bs : List Int) (e : Int), e ≠ 0 → (takeS k bs e).2 = (bs, e)
  | .mk c ks, bs, e, he => by
    have hn := numS_err (bs := bs) he
    have hc : ∀ sm, cntS sm bs e = (0, bs, e) := fun sm => by unfold cntS; rw [hn]; simp [he]
    rw [take_eq]
    split
    · simp [hn]
    · split
      · simp [hc]
      · split
        · cases ks with
          | nil => unfold takeA; rfl
          | cons k ks => rw [takeA_cons, hc]; simp [repT]
        · exact takeL_err ks bs e he
theorem takeL_err : ∀ (ks : List Sh) (bs : List Int) (e : Int), e ≠ 0 → (takeL ks bs e).2 = (bs, e)
  | [], bs, e, he => by rw [takeL_nil]
  | k :: ks, bs, e, he => by
    rw [takeL_cons]
    simp only [take_err k bs e he]
    exact takeL_err ks bs e he
end
theorem rep_can {k : Sh} (hf : ∀ bs v r, Byt bs → takeS k bs 0 = (v, r, 0) → bs = putS k v ++ r ∧ hasS k v = true) : ∀ n bs vs r, Byt bs → repT (takeS k) n bs 0 = (vs, r, 0) → bs = (vs.map (putS k)).flatten ++ r ∧ vs.length = n ∧ vs.all (hasS k) = true
  | 0, bs, vs, r, hb, h => by simp only [repT, Prod.mk.injEq] at h; obtain ⟨rfl, rfl, _⟩ := h; simp
  | n + 1, bs, vs, r, hb, h => by
    unfold repT at h
    split at h
    · next h0 =>
      rw [h0] at h
      have h1 : takeS k bs 0 = ((takeS k bs 0).1, (takeS k bs 0).2.1, 0) := Prod.ext rfl (Prod.ext rfl h0)
      obtain ⟨e1, e2⟩ := hf _ _ _ hb h1
      have hl := (take_left k bs 0 hb).1
      generalize (takeS k bs 0).1 = v at *
      generalize (takeS k bs 0).2.1 = b2 at *
      cases hq : repT (takeS k) n b2 0 with
      | mk vs2 p =>
        rw [hq] at h
        cases h
        obtain ⟨a, b, c⟩ := rep_can hf n b2 vs2 r hl hq
        refine ⟨?_, by simp [b], by simp [e2, c]⟩
        rw [e1, a]
        simp
    · next h0 =>
      exfalso
      simp only [Prod.mk.injEq] at h
      exact h0 (by rw [h.2])
mutual
/-- What a value was read from is its form. -/
theorem take_can : ∀ (k : Sh), Gd k → ∀ bs v r, Byt bs → takeS k bs 0 = (v, r, 0) → bs = putS k v ++ r ∧ hasS k v = true
  | .mk c ks, hg, bs, v, r, hb, h => by
    rw [take_eq] at h
    cases hg with
    | num =>
      rw [if_pos rfl] at h
      simp only [Prod.mk.injEq] at h
      obtain ⟨rfl, h2⟩ := h
      rw [put_eq, if_pos rfl, has_eq]
      exact ⟨numS_can hb (by rw [← h2]), by simp⟩
    | byt =>
      rw [if_neg (by decide), if_pos rfl] at h
      simp only [Prod.mk.injEq] at h
      obtain ⟨rfl, rfl, h3⟩ := h
      have hc : cntS true bs 0 = ((cntS true bs 0).1, (cntS true bs 0).2.1, 0) := Prod.ext rfl (Prod.ext rfl h3)
      obtain ⟨a, b, d⟩ := cnt_can hb hc
      have d := d rfl
      generalize (cntS true bs 0).1 = n at *
      generalize (cntS true bs 0).2.1 = t at *
      rw [put_eq, if_neg (by decide), if_pos rfl, has_eq]
      refine ⟨?_, by simp⟩
      have hl : ((t.take n.toNat).length : Int) = n := by simp; omega
      rw [hl, List.append_assoc, List.take_append_drop]
      exact a
    | @lst k hk =>
      rw [if_neg (by decide), if_neg (by decide), if_pos rfl, takeA_cons] at h
      simp only [Prod.mk.injEq] at h
      obtain ⟨rfl, h2⟩ := h
      cases hc : cntS (someS k) bs 0 with
      | mk n p =>
        obtain ⟨t, e⟩ := p
        rw [hc] at h2
        simp only at h2 ⊢
        by_cases he : e = 0
        · subst he
          obtain ⟨a, b, d⟩ := cnt_can hb hc
          have ht : Byt t := fun z hz => hb z (by rw [a]; simp [hz])
          have hq : repT (takeS k) n.toNat t 0 = ((repT (takeS k) n.toNat t 0).1, r, 0) := by rw [← h2]
          obtain ⟨x, y, z⟩ := rep_can (take_can k hk) _ _ _ _ ht hq
          rw [put_eq, if_neg (by decide), if_neg (by decide), if_pos rfl, putA_cons, has_eq, if_pos rfl, hasA_cons]
          refine ⟨?_, z⟩
          simp only
          rw [y, List.append_assoc, ← x, Int.toNat_of_nonneg b]
          exact a
        · exfalso
          have : n = 0 := by
            have hr := cntS_range (sm := someS k) 0 hb
            rw [hc] at hr
            unfold cntS at hc
            split at hc
            · split at hc
              · cases hc; rfl
              · split at hc
                · cases hc; rfl
                · next h0 _ _ => rw [hc] at h0; exact absurd h0 he
            · cases hc; rfl
          subst this
          simp only [repT, Int.toNat_zero, Prod.mk.injEq] at h2
          exact he h2.2
    | row hk =>
      rw [if_neg (by decide), if_neg (by decide), if_neg (by decide)] at h
      simp only [Prod.mk.injEq] at h
      obtain ⟨rfl, h2⟩ := h
      have hq : takeL ks bs 0 = ((takeL ks bs 0).1, r, 0) := by rw [← h2]
      obtain ⟨a, b, d⟩ := takeL_can ks hk bs _ r hb hq
      rw [put_eq, if_neg (by decide), if_neg (by decide), if_neg (by decide), has_eq, if_neg (by decide), if_pos rfl]
      simp only
      exact ⟨a, by simp [b, d]⟩
theorem takeL_can : ∀ (ks : List Sh), (∀ k ∈ ks, Gd k) → ∀ bs vs r, Byt bs → takeL ks bs 0 = (vs, r, 0) → bs = putL ks vs ++ r ∧ vs.length = ks.length ∧ hasL ks vs = true
  | [], hg, bs, vs, r, hb, h => by
    rw [takeL_nil] at h
    cases h
    simp [putL, hasL]
  | k :: ks, hg, bs, vs, r, hb, h => by
    rw [takeL_cons] at h
    by_cases he : (takeS k bs 0).2.2 = 0
    · rw [he] at h
      have h1 : takeS k bs 0 = ((takeS k bs 0).1, (takeS k bs 0).2.1, 0) := Prod.ext rfl (Prod.ext rfl he)
      obtain ⟨e1, e2⟩ := take_can k (hg k (by simp)) _ _ _ hb h1
      have hl := (take_left k bs 0 hb).1
      generalize (takeS k bs 0).1 = v at *
      generalize (takeS k bs 0).2.1 = b2 at *
      cases hq : takeL ks b2 0 with
      | mk vs2 p =>
        rw [hq] at h
        cases h
        obtain ⟨a, b, c⟩ := takeL_can ks (fun z hz => hg z (by simp [hz])) b2 vs2 r hl hq
        refine ⟨?_, by simp [b], ?_⟩
        · conv => rhs; unfold putL
          rw [e1, a]
          simp
        · conv => lhs; unfold hasL
          rw [e2, c]
          rfl
    · exfalso
      have h2 := congrArg (fun q => q.2) h
      simp only [takeL_err ks _ _ he, Prod.mk.injEq] at h2
      exact he h2.2
end
end Go.Proofs.Ytcdlccnpbhjgkaa.Oo
namespace Go.Proofs.Ytcdlccnpbhjgkaa.Oo
open Go.RowKit Go.Maps Go.Proofs.YtcdlccnpbhjgkaaW.PrintWords Go.Proofs.YtcdlccnpbhjgkaaW.PrintLast Go.Proofs.YtcdlccnpbhjgkaaW.PrintMore
open Go.Proofs.Ytcdlccnpbhjgkaa.POrderBytes
set_option linter.unusedVariables false
set_option linter.unusedSimpArgs false
def plc {α : Type} (n : Nat) : Option (α × List UInt8) → Int
  | some p => (n : Int) - p.2.length
  | none => -1
theorem drop_cons {l : List UInt8} {i : Nat} (h : i < l.length) : l.drop i = l[i] :: l.drop (i + 1) := List.drop_eq_getElem_cons h
theorem bt_l (s : ByteArray) {i : Nat} (h : i < s.data.toList.length) : bt s (i : Int) = (s.data.toList[i].toNat : Int) := by
  have h2 : i < s.size := by simpa using h
  unfold bt
  simp only [Int.toNat_natCast]
  rw [dif_pos h2]
  rfl
theorem suf {l r a : List UInt8} {i : Nat} (h : l.drop i = a ++ r) : r = l.drop (l.length - r.length) := by
  have hl := congrArg List.length h
  simp only [List.length_drop, List.length_append] at hl
  have : r = (l.drop i).drop a.length := by rw [h]; simp
  rw [List.drop_drop] at this
  by_cases hr : r.length = 0
  · have : r = [] := List.length_eq_zero_iff.1 hr
    subst this
    simp
  · conv => lhs; rw [this]
    congr 1
    omega
theorem byte_ne {c d : UInt8} (h : c ≠ d) : ¬ ((c.toNat : Int) = (d.toNat : Int)) := fun e => h (UInt8.toNat_inj.1 (by omega))
theorem end_val (s : ByteArray) (hs : s.size ≤ 1000000) : ∀ n : Nat,
    (∀ (i deep : Nat), i ≤ s.size → 2 * (s.size - i) + 1 ≤ n → deep ≤ 100 → Ev (fun k => echelonref01_end.f k s i deep) (plc s.size (pt n deep (s.data.toList.drop i)))) ∧
    (∀ (i deep : Nat), i ≤ s.size → 2 * (s.size - i) + 2 ≤ n → deep ≤ 99 → Ev (fun k => echelonref01_end.l0 k s i deep) (plc s.size (pts n (deep + 1) (s.data.toList.drop i))))
  | 0 => ⟨fun i deep _ h => by omega, fun i deep _ h => by omega⟩
  | n + 1 => by
    obtain ⟨hA, hB⟩ := end_val s hs n
    have hsl : s.data.toList.length = s.size := by simp
    refine ⟨fun i deep hi hn hd => ?_, fun i deep hi hn hd => ?_⟩
    · by_cases hlt : i < s.size
      · have hll : i < s.data.toList.length := by rw [hsl]; exact hlt
        rw [drop_cons hll]
        unfold pt
        have hbt := bt_l s hll
        by_cases h8 : 8 < deep
        · rw [if_pos h8]
          refine Ev.step (f := fun k => echelonref01_end.j0 k s i deep true) (fun k => ?_) (Ev.step (f := fun k => some (-1)) (fun k => ?_) (Ev.now _))
          · conv => lhs; unfold echelonref01_end.f
            rw [if_neg (by omega), decide_eq_true (by omega)]
          · conv => lhs; unfold echelonref01_end.j0
            rw [if_pos rfl]
        · rw [if_neg h8]
          generalize hc : s.data.toList[i] = c at hbt
          refine Ev.step (f := fun k => echelonref01_end.j0 k s i deep false) (fun k => ?_) ?_
          · conv => lhs; unfold echelonref01_end.f
            rw [if_neg (by omega), decide_eq_false (by omega)]
          by_cases h1 : c = 110
          · subst h1
            rw [if_pos rfl]
            refine Ev.step (f := fun k => echelonref01_end.j1 k s i deep 110 true) (fun k => ?_) (Ev.step (f := fun k => some (wrap64 ((i : Int) + 1))) (fun k => ?_) ?_)
            · conv => lhs; unfold echelonref01_end.j0
              rw [if_neg (by decide), if_pos (by omega), if_pos (by omega), if_pos (by rw [hbt]; rfl), hbt]
              rfl
            · conv => lhs; unfold echelonref01_end.j1
              rw [if_pos rfl]
            · have e : wrap64 ((i : Int) + 1) = plc s.size (some ((Sh.mk 110 [], s.data.toList.drop (i + 1)) : Sh × List UInt8)) := by
                unfold plc wrap64
                simp
                omega
              rw [e]
              exact Ev.now _
          · rw [if_neg h1]
            have h1' : ¬ ((c.toNat : Int) = 110) := byte_ne (d := 110) h1
            by_cases h2 : c = 98
            · subst h2
              rw [if_pos rfl]
              refine Ev.step (f := fun k => echelonref01_end.j1 k s i deep 98 true) (fun k => ?_) (Ev.step (f := fun k => some (wrap64 ((i : Int) + 1))) (fun k => ?_) ?_)
              · conv => lhs; unfold echelonref01_end.j0
                rw [if_neg (by decide), if_pos (by omega), if_pos (by omega), if_neg (by rw [hbt]; decide), hbt]
                rfl
              · conv => lhs; unfold echelonref01_end.j1
                rw [if_pos rfl]
              · have e : wrap64 ((i : Int) + 1) = plc s.size (some ((Sh.mk 98 [], s.data.toList.drop (i + 1)) : Sh × List UInt8)) := by
                  unfold plc wrap64
                  simp
                  omega
                rw [e]
                exact Ev.now _
            · rw [if_neg h2]
              have h2' : ¬ ((c.toNat : Int) = 98) := byte_ne (d := 98) h2
              refine Ev.step (f := fun k => echelonref01_end.j1 k s i deep (c.toNat : Int) false) (fun k => ?_) ?_
              · conv => lhs; unfold echelonref01_end.j0
                rw [if_neg (by decide), if_pos (by omega), if_pos (by omega), if_neg (by rw [hbt]; exact h1'), hbt]
                congr 1
                simpa using h2'
              have hw : wrap64 ((i : Int) + 1) = ((i + 1 : Nat) : Int) := by unfold wrap64; omega
              have hwd : wrap64 ((deep : Int) + 1) = ((deep + 1 : Nat) : Int) := by unfold wrap64; omega
              by_cases h3 : c = 42
              · subst h3
                rw [if_pos rfl]
                refine Ev.step (f := fun k => (echelonref01_end.f k s ((i + 1 : Nat) : Int) ((deep + 1 : Nat) : Int)).bind fun t => some t) (fun k => ?_) ?_
                · conv => lhs; unfold echelonref01_end.j1
                  rw [if_neg (by decide), if_pos (by decide), hw, hwd]
                refine Ev.bind (hA (i + 1) (deep + 1) (by omega) (by omega) (by omega)) ?_
                have e : plc s.size (Option.map (fun p => (Sh.mk 42 [p.fst], p.snd)) (pt n (deep + 1) (s.data.toList.drop (i + 1)))) = plc s.size (pt n (deep + 1) (s.data.toList.drop (i + 1))) := by
                  cases pt n (deep + 1) (s.data.toList.drop (i + 1)) <;> rfl
                rw [e]
                exact Ev.now _
              · rw [if_neg h3]
                have h3' : ¬ ((c.toNat : Int) = 42) := byte_ne (d := 42) h3
                by_cases h4 : c = 91
                · subst h4
                  rw [if_pos rfl]
                  refine Ev.step (f := fun k => echelonref01_end.l0 k s ((i + 1 : Nat) : Int) (deep : Int)) (fun k => ?_) ?_
                  · conv => lhs; unfold echelonref01_end.j1
                    rw [if_neg (by decide), if_neg (by decide), if_pos (by decide), hw]
                  have e : plc s.size (Option.map (fun p => (Sh.mk 91 p.fst, p.snd)) (pts n (deep + 1) (s.data.toList.drop (i + 1)))) = plc s.size (pts n (deep + 1) (s.data.toList.drop (i + 1))) := by
                    cases pts n (deep + 1) (s.data.toList.drop (i + 1)) <;> rfl
                  rw [e]
                  exact hB (i + 1) deep (by omega) (by omega) (by omega)
                · rw [if_neg h4]
                  have h4' : ¬ ((c.toNat : Int) = 91) := byte_ne (d := 91) h4
                  refine Ev.step (f := fun k => some (-1)) (fun k => ?_) (Ev.now _)
                  conv => lhs; unfold echelonref01_end.j1
                  rw [if_neg (by decide), if_neg h3', if_neg h4']
      · have hnil : s.data.toList.drop i = [] := List.drop_of_length_le (by rw [hsl]; omega)
        rw [hnil]
        unfold pt
        refine Ev.step (f := fun k => echelonref01_end.j0 k s i deep true) (fun k => ?_) (Ev.step (f := fun k => some (-1)) (fun k => ?_) (Ev.now _))
        · conv => lhs; unfold echelonref01_end.f
          rw [if_pos (by omega)]
        · conv => lhs; unfold echelonref01_end.j0
          rw [if_pos rfl]
    · by_cases hlt : i < s.size
      · have hll : i < s.data.toList.length := by rw [hsl]; exact hlt
        have hbt := bt_l s hll
        have hdc := drop_cons hll
        generalize hc : s.data.toList[i] = c at hbt hdc
        rw [hdc]
        unfold pts
        by_cases h93 : c = 93
        · subst h93
          rw [if_pos rfl]
          refine Ev.step (f := fun k => echelonref01_end.j3 k s i deep false) (fun k => ?_) (Ev.step (f := fun k => some (wrap64 ((i : Int) + 1))) (fun k => ?_) ?_)
          · conv => lhs; unfold echelonref01_end.l0
            rw [if_pos (by omega), if_pos (by omega), hbt]
            rfl
          · conv => lhs; unfold echelonref01_end.j3
            rw [if_neg (by decide), if_pos (by omega)]
          · have e : wrap64 ((i : Int) + 1) = plc s.size (some (([], s.data.toList.drop (i + 1)) : List Sh × List UInt8)) := by
              unfold plc wrap64
              simp
              omega
            rw [e]
            exact Ev.now _
        · rw [if_neg h93]
          have h93' : ¬ ((c.toNat : Int) = 93) := byte_ne (d := 93) h93
          have hwd : wrap64 ((deep : Int) + 1) = ((deep + 1 : Nat) : Int) := by unfold wrap64; omega
          refine Ev.step (f := fun k => echelonref01_end.j3 k s i deep true) (fun k => ?_) (Ev.step (f := fun k => (echelonref01_end.f k s (i : Int) ((deep + 1 : Nat) : Int)).bind fun t118 => (if t118 < 0 then (some (-1)) else (echelonref01_end.l0 k s t118 deep))) (fun k => ?_) ?_)
          · conv => lhs; unfold echelonref01_end.l0
            rw [if_pos (by omega), if_pos (by omega), hbt]
            congr 1
            simpa using h93'
          · conv => lhs; unfold echelonref01_end.j3
            rw [if_pos rfl, hwd]
          · have hAi := hA i (deep + 1) (by omega) (by omega) (by omega)
            rw [hdc] at hAi
            refine Ev.bind hAi ?_
            cases hp : pt n (deep + 1) (c :: s.data.toList.drop (i + 1)) with
            | none =>
              simp only [plc]
              exact Ev.now _
            | some p =>
              obtain ⟨k1, r⟩ := p
              have hlen := (pt_len n).1 _ _ _ _ hp
              obtain ⟨hr, _, _⟩ := (pt_ren n).1 _ _ _ _ hp
              rw [← hdc] at hr
              have hs2 := suf hr
              have hlr : r.length ≤ s.size := by have := congrArg List.length hr; simp at this; omega
              rw [← hdc] at hlen
              simp only [List.length_drop] at hlen
              simp only [plc]
              simp only [show ¬ ((s.size : Int) - (r.length : Int) < 0) by omega, if_false]
              have e1 : (s.size : Int) - (r.length : Int) = ((s.size - r.length : Nat) : Int) := by omega
              rw [e1]
              have hBi := hB (s.size - r.length) deep (by omega) (by omega) hd
              rw [hsl] at hs2
              rw [← hs2] at hBi
              have e2 : plc s.size (Option.map (fun q => (k1 :: q.fst, q.snd)) (pts n (deep + 1) r)) = plc s.size (pts n (deep + 1) r) := by
                cases pts n (deep + 1) r <;> rfl
              simp only [plc] at e2 hBi ⊢
              rw [e2]
              exact hBi
      · have hnil : s.data.toList.drop i = [] := List.drop_of_length_le (by rw [hsl]; omega)
        rw [hnil]
        unfold pts
        refine Ev.step (f := fun k => echelonref01_end.j3 k s i deep false) (fun k => ?_) (Ev.step (f := fun k => some (-1)) (fun k => ?_) (Ev.now _))
        · conv => lhs; unfold echelonref01_end.l0
          rw [if_neg (by omega)]
        · conv => lhs; unfold echelonref01_end.j3
          rw [if_neg (by decide), if_neg (by omega)]
end Go.Proofs.Ytcdlccnpbhjgkaa.Oo
namespace Go.Proofs.Ytcdlccnpbhjgkaa.Oo
open Go.RowKit Go.Maps Go.Proofs.YtcdlccnpbhjgkaaW.PrintWords Go.Proofs.YtcdlccnpbhjgkaaW.PrintLast Go.Proofs.YtcdlccnpbhjgkaaW.PrintMore
open Go.Proofs.Ytcdlccnpbhjgkaa.POrderBytes
set_option linter.unusedVariables false
set_option linter.unusedSimpArgs false
theorem get_of_drop {α : Type} {l : List α} {i : Nat} {c : α} {s : List α} (h : i < l.length) (e : l.drop i = c :: s) : l[i] = c := by
  rw [List.drop_eq_getElem_cons h] at e
  exact (List.cons.inj e).1
theorem str_dt (l : List UInt8) : (str l).data.toList = l := by simp [str]
theorem str_ext (l : List UInt8) (i j : Nat) : (str l).extract i j = str ((l.take j).drop i) := by
  apply ByteArray.ext
  rw [ByteArray.data_extract]
  apply Array.toList_inj.1
  simp [str, Array.toList_extract, List.extract_eq_take_drop, List.drop_take]
theorem str_bt (l : List UInt8) {i : Nat} (h : i < l.length) : bt (str l) (i : Int) = (l[i].toNat : Int) := by
  have := bt_l (str l) (i := i) (by rw [str_dt]; exact h)
  rw [this]
  simp only [str_dt]
theorem bt_0 (c : UInt8) (s : List UInt8) : bt (str (c :: s)) 0 = (c.toNat : Int) := str_bt (c :: s) (i := 0) (by simp)
def strs (ks : List Sh) : List ByteArray := ks.map fun k => str (ren k)
theorem rows_l0 (l : List UInt8) (hl : l.length ≤ 1000) : ∀ (ks : List Sh) (i : Nat) (out : List ByteArray), (∀ k ∈ ks, Gd k) → depL ks ≤ 9 → l.drop i = renL ks ++ [93] → out.length ≤ i → Ev (fun k => echelonref01_rows.l0 k (str l) out (i : Int)) (out ++ strs ks)
  | [], i, out, hg, hd, he, ho => by
    rw [renL_nil, List.nil_append] at he
    have hlen := congrArg List.length he
    simp only [List.length_drop, List.length_cons, List.length_nil] at hlen
    have hi : i < l.length := by omega
    have hc : l[i] = 93 := get_of_drop hi he
    refine Ev.step (f := fun k => some out) (fun k => ?_) (by simpa [strs] using Ev.now _)
    conv => lhs; unfold echelonref01_rows.l0
    rw [if_pos (by omega), if_pos (by rw [str_size]; omega), str_bt l hi, hc, if_pos (by decide)]
  | k :: ks, i, out, hg, hd, he, ho => by
    rw [renL_cons, List.append_assoc] at he
    rw [depL_cons] at hd
    have gk := hg k (by simp)
    have hlen := congrArg List.length he
    simp only [List.length_drop, List.length_append, List.length_cons, List.length_nil] at hlen
    have hi : i < l.length := by omega
    obtain ⟨c, s, e1, hc⟩ := ren_head gk
    have hci : l[i] = c := get_of_drop hi (by rw [he, e1]; rfl)
    have hc93 : ¬ (c.toNat : Int) = 93 := by rcases hc with rfl | rfl | rfl | rfl <;> decide
    have hpt := ren_pt k (2 * l.length + 1) 0 (renL ks ++ [93]) gk (by omega) (by simp only [List.length_append, List.length_cons, List.length_nil]; omega)
    have hE := (end_val (str l) (by rw [str_size]; omega) (2 * l.length + 1)).1 i 0 (by rw [str_size]; omega) (by rw [str_size]; omega) (by omega)
    rw [str_dt, he, hpt, str_size] at hE
    have ep : plc l.length (some (k, renL ks ++ [93])) = ((i + (ren k).length : Nat) : Int) := by
      simp only [plc, List.length_append, List.length_cons, List.length_nil]
      omega
    rw [ep] at hE
    have hx : (l.take (i + (ren k).length)).drop i = ren k := by
      rw [List.drop_take, he, Nat.add_sub_cancel_left, List.take_left]
    have hdr : l.drop (i + (ren k).length) = renL ks ++ [93] := by
      rw [← List.drop_drop, he, List.drop_left]
    have ih := rows_l0 l hl ks (i + (ren k).length) (out ++ [str (ren k)]) (fun z hz => hg z (by simp [hz])) (by omega) hdr (by have := ren_pos gk; simp; omega)
    have eo : out ++ strs (k :: ks) = (out ++ [str (ren k)]) ++ strs ks := by simp [strs]
    rw [eo]
    refine Ev.step (f := fun n => (echelonref01_end.f n (str l) (i : Int) 0).bind fun t188 => (if (i : Int) ≤ t188 then (if t188 ≤ ((str l).size : Int) then (if out.length < 8796093022208 then (echelonref01_rows.l0 n (str l) (out ++ [(str l).extract ((i : Int)).toNat (t188 : Int).toNat]) t188) else (none)) else (none)) else (none))) (fun n => ?_) ?_
    · conv => lhs; unfold echelonref01_rows.l0
      rw [if_pos (by omega), if_pos (by rw [str_size]; omega), str_bt l hi, hci, if_neg hc93]
    · refine Ev.bind hE ?_
      simp only [str_size]
      simp only [show ((i : Int) ≤ ((i + (ren k).length : Nat) : Int)) = True from eq_true (by omega), show (((i + (ren k).length : Nat) : Int) ≤ (l.length : Int)) = True from eq_true (by omega), show (out.length < 8796093022208) = True from eq_true (by omega), if_true, Int.toNat_natCast, str_ext, hx]
      exact ih
theorem rows_val {ks : List Sh} (hg : ∀ k ∈ ks, Gd k) (hd : depL ks ≤ 9) (hl : (ren (.mk 91 ks)).length ≤ 1000) : Ev (fun k => echelonref01_rows.f k (str (ren (.mk 91 ks)))) (strs ks) := by
  have h := rows_l0 (ren (.mk 91 ks)) hl ks 1 [] hg hd (by rw [ren_row]; rfl) (by simp)
  exact h
theorem rd_strs {ks : List Sh} {i : Nat} (h : i < ks.length) : rdOf ByteArray.empty (strs ks) (i : Int) = str (ren ks[i]) := by
  simp [rdOf, strs, h]
theorem strs_len (ks : List Sh) : (strs ks).length = ks.length := by simp [strs]
theorem some_l0 (ks : List Sh) (hl : ks.length ≤ 1000) (ih : ∀ k ∈ ks, Ev (fun n => echelonref01_Some.f n (str (ren k))) (someS k)) : ∀ (d i : Nat), i + d = ks.length → Ev (fun n => echelonref01_Some.l0 n (strs ks) (i : Int)) ((ks.drop i).any someS)
  | 0, i, h => by
    refine Ev.step (f := fun n => some false) (fun n => ?_) ?_
    · conv => lhs; unfold echelonref01_Some.l0
      rw [if_neg (by rw [strs_len]; omega)]
    · rw [List.drop_of_length_le (by omega)]
      exact Ev.now _
  | d + 1, i, h => by
    have hi : i < ks.length := by omega
    have h1 := some_l0 ks hl ih d (i + 1) (by omega)
    rw [List.drop_eq_getElem_cons hi, List.any_cons]
    refine Ev.step (f := fun n => (echelonref01_Some.f n (str (ren ks[i]))).bind fun t196 => (if t196 = true then (some true) else (echelonref01_Some.l0 n (strs ks) ((i + 1 : Nat) : Int)))) (fun n => ?_) ?_
    · conv => lhs; unfold echelonref01_Some.l0
      rw [if_pos (by rw [strs_len]; omega), if_pos (by omega), rd_strs hi, w_succ (by omega)]
    · refine Ev.bind (ih _ (List.getElem_mem hi)) ?_
      cases someS ks[i] with
      | true => simp only [if_true, Bool.true_or]; exact Ev.now _
      | false => simp only [Bool.false_eq_true, if_false, Bool.false_or]; exact h1
theorem rowlen {ks : List Sh} (hg : ∀ k ∈ ks, Gd k) {n : Nat} (hl : (ren (.mk 91 ks)).length ≤ n) : ks.length ≤ n ∧ ∀ k ∈ ks, (ren k).length ≤ n := by
  have h := renL_len hg
  rw [ren_row] at hl
  simp only [List.length_cons, List.length_append, List.length_nil] at hl
  exact ⟨by omega, fun k hk => by have := h.2 k hk; omega⟩
theorem some_val : ∀ (k : Sh), Gd k → dep k ≤ 9 → (ren k).length ≤ 1000 → Ev (fun n => echelonref01_Some.f n (str (ren k))) (someS k)
  | .mk c ks, hg, hd, hl => by
    have hnr : ∀ (x : UInt8) (s : List UInt8), ren (.mk c ks) = x :: s → x ≠ 91 → someS (.mk c ks) = true → Ev (fun n => echelonref01_Some.f n (str (ren (.mk c ks)))) (someS (.mk c ks)) := fun x s e hx hs => by
      rw [e, hs]
      refine Ev.step (f := fun n => some true) (fun n => ?_) (Ev.now _)
      conv => lhs; unfold echelonref01_Some.f
      rw [if_pos (by rw [str_size]; simp), bt_0, if_neg (show ¬ ((x.toNat : Int) = 91) from byte_ne (d := 91) hx)]
    cases hg with
    | num => exact hnr _ _ ren_num (by decide) (by rw [some_eq, if_neg (by decide)])
    | byt => exact hnr _ _ ren_byt (by decide) (by rw [some_eq, if_neg (by decide)])
    | lst h => exact hnr _ _ (ren_lst _) (by decide) (by rw [some_eq, if_neg (by decide)])
    | row h =>
      rw [dep_eq] at hd
      obtain ⟨hl1, hl2⟩ := rowlen h hl
      have hr := rows_val h hd hl
      have hs := some_l0 ks hl1 (fun k hk => some_val k (h k hk) (by have := dep_mem hk; omega) (hl2 k hk)) ks.length 0 (by omega)
      rw [some_eq, if_pos rfl, someL_any]
      refine Ev.step (f := fun n => (echelonref01_rows.f n (str (ren (.mk 91 ks)))).bind fun t192 => (echelonref01_Some.l0 n t192 0)) (fun n => ?_) (Ev.bind hr hs)
      conv => lhs; unfold echelonref01_Some.f
      rw [ren_row, if_pos (by rw [str_size, List.length_cons]; omega), bt_0, if_pos (by decide)]
theorem rd_drop {b : List Int} {i : Nat} (h : i < b.length) : rd b (i : Int) = b[i] := by simp [rd, h]
theorem be_small {i : Nat} (h : i ≤ 7) {x : Int} (hx : 0 ≤ x ∧ x < 256 ^ i) : 0 ≤ x ∧ x < 72057594037927936 := by
  refine ⟨hx.1, Int.lt_of_lt_of_le hx.2 ?_⟩
  have := Nat.pow_le_pow_right (show 0 < 256 by decide) h
  have e1 : ((256 ^ i : Nat) : Int) = (256 : Int) ^ i := by simp
  rw [← e1]
  exact Int.ofNat_le.2 this
theorem num_step (b : List Int) (a i s : Nat) (x : Int) (k : Nat) (h1 : i < s) (h2 : a + 1 + i < b.length) (hb : b.length ≤ 1000000) (hz : i = 0 → rd b ((a + 1 : Nat) : Int) ≠ 0) : echelonref01_number.l0 (k + 1) b (a : Int) (s : Int) x (i : Int) = echelonref01_number.l0 k b (a : Int) (s : Int) (IntKind.u64.wrap ((IntKind.u64.wrap (256 * x)) + (IntKind.u64.wrap (rd b ((a + 1 + i : Nat) : Int))))) ((i + 1 : Nat) : Int) := by
  have hw : wrap64 ((a : Int) + 1) = ((a + 1 : Nat) : Int) := by unfold wrap64; omega
  have hw2 : wrap64 (((a + 1 : Nat) : Int) + (i : Int)) = ((a + 1 + i : Nat) : Int) := by unfold wrap64; omega
  have hwi : wrap64 ((i : Int) + 1) = ((i + 1 : Nat) : Int) := by unfold wrap64; omega
  have c1 : (i : Int) < (s : Int) := by omega
  have c2 : ¬ (((a + 1 + i : Nat) : Int) ≥ (b.length : Int)) := by omega
  have c3 : (0 : Int) ≤ ((a + 1 + i : Nat) : Int) := by omega
  have c4 : ((a + 1 + i : Nat) : Int) < (b.length : Int) := by omega
  have c5 : (0 : Int) ≤ ((a + 1 : Nat) : Int) := by omega
  have c6 : ((a + 1 : Nat) : Int) < (b.length : Int) := by omega
  conv => lhs; unfold echelonref01_number.l0
  rw [if_pos c1, hw, hw2, if_neg c2]
  by_cases h0 : i = 0
  · have c7 : (i : Int) = 0 := by omega
    rw [if_pos c7, if_pos c5, if_pos c6, if_neg (hz h0), if_pos c3, if_pos c4, hwi]
  · have c7 : ¬ (i : Int) = 0 := by omega
    rw [if_neg c7, if_pos c3, if_pos c4, hwi]
theorem num_l0 (b : List Int) (hb : b.length ≤ 1000000) (hx : Byt b) (a s : Nat) (hs : s ≤ 8) (ha : a < b.length) (hz : 0 < s → ∀ h : a + 1 < b.length, b[a + 1] ≠ 0) : ∀ (d i : Nat), i + d = s → a + 1 + i ≤ b.length → Ev (fun k => echelonref01_number.l0 k b (a : Int) (s : Int) (beN ((b.drop (a + 1)).take i)) (i : Int)) (if a + 1 + s ≤ b.length then (beN ((b.drop (a + 1)).take s), ((a + 1 + s : Nat) : Int), 0) else (0, (a : Int), 11))
  | 0, i, h, hi => by
    have hw : wrap64 ((a : Int) + 1) = ((a + 1 : Nat) : Int) := by unfold wrap64; omega
    have hw2 : wrap64 (((a + 1 : Nat) : Int) + (s : Int)) = ((a + 1 + s : Nat) : Int) := by unfold wrap64; omega
    have e : i = s := by omega
    subst e
    rw [if_pos hi]
    refine Ev.step (f := fun k => _) (fun k => ?_) (Ev.now _)
    conv => lhs; unfold echelonref01_number.l0
    rw [if_neg (by omega), hw, hw2]
  | d + 1, i, h, hi => by
    have his : i < s := by omega
    have hs0 : 0 < s := by omega
    by_cases hlt : a + 1 + i < b.length
    · have hlt1 : a + 1 < b.length := by omega
      have hr := rd_drop hlt
      have hbi := hx _ (List.getElem_mem hlt)
      have hdl : i < (b.drop (a + 1)).length := by simp; omega
      have hsn : (b.drop (a + 1)).take (i + 1) = (b.drop (a + 1)).take i ++ [b[a + 1 + i]] := by
        rw [List.take_succ_eq_append_getElem hdl]
        simp
      have hbt : Byt ((b.drop (a + 1)).take i) := fun z hz => hx z (List.mem_of_mem_drop (List.mem_of_mem_take hz))
      have hbe := be_small (show i ≤ 7 by omega) (beN_lt i ((b.drop (a + 1)).take i) (by simp; omega) hbt)
      have ih := num_l0 b hb hx a s hs ha hz d (i + 1) (by omega) (by omega)
      rw [hsn, beN_snoc] at ih
      have hu : IntKind.u64.wrap ((IntKind.u64.wrap (256 * beN ((b.drop (a + 1)).take i))) + (IntKind.u64.wrap (b[a + 1 + i]))) = 256 * beN ((b.drop (a + 1)).take i) + b[a + 1 + i] := by
        rw [u64_big (n := 256 * beN ((b.drop (a + 1)).take i)) (by omega) (by omega), u64_big (n := b[a + 1 + i]) (by omega) (by omega), u64_big (by omega) (by omega)]
      refine Ev.step (f := fun k => echelonref01_number.l0 k b (a : Int) (s : Int) (256 * beN ((b.drop (a + 1)).take i) + b[a + 1 + i]) ((i + 1 : Nat) : Int)) (fun k => ?_) ih
      rw [num_step b a i s _ k his hlt hb (fun _ => by
        rw [rd_drop hlt1]
        exact hz hs0 hlt1), hr, hu]
    · have c1 : ¬ (a + 1 + s ≤ b.length) := by omega
      have c2 : (i : Int) < (s : Int) := by omega
      have c3 : ((a + 1 + i : Nat) : Int) ≥ (b.length : Int) := by omega
      have hw : wrap64 ((a : Int) + 1) = ((a + 1 : Nat) : Int) := by unfold wrap64; omega
      have hw2 : wrap64 (((a + 1 : Nat) : Int) + (i : Int)) = ((a + 1 + i : Nat) : Int) := by unfold wrap64; omega
      rw [if_neg c1]
      refine Ev.step (f := fun k => _) (fun k => ?_) (Ev.now _)
      conv => lhs; unfold echelonref01_number.l0
      rw [if_pos c2, hw, hw2, if_pos c3]
theorem rnumber_val (b : List Int) (hb : b.length ≤ 1000000) (hx : Byt b) (a : Nat) (ha : a ≤ b.length) : Ev (fun k => echelonref01_number.f k b (a : Int)) ((numS (b.drop a) 0).1, ((b.length - (numS (b.drop a) 0).2.1.length : Nat) : Int), (numS (b.drop a) 0).2.2) := by
  unfold echelonref01_number.f
  by_cases h : a < b.length
  · have hbi := hx _ (List.getElem_mem h)
    have hw : wrap64 (b[a]) = b[a] := by unfold wrap64; omega
    have hn : (((b.length : Int) ≤ (a : Int))) = False := eq_false (by omega)
    simp only [ge_iff_le, hn, if_false, show ((0 : Int) ≤ (a : Int)) = True from eq_true (by omega), show ((a : Int) < (b.length : Int)) = True from eq_true (by omega), if_true, rd_drop h, hw]
    have hd := List.drop_eq_getElem_cons h
    unfold numS
    rw [if_pos rfl, hd]
    simp only
    by_cases h8 : 8 < b[a]
    · rw [if_pos (.inl h8)]
      simp only [show (b[a] > 8) = True from eq_true h8, if_true, List.length_cons, List.length_drop]
      have e : ((b.length - (b.length - (a + 1) + 1) : Nat) : Int) = (a : Int) := by omega
      rw [e]
      exact Ev.now _
    · simp only [show (b[a] > 8) = False from eq_false h8, if_false]
      obtain ⟨s, hs⟩ : ∃ s : Nat, b[a] = (s : Int) := ⟨b[a].toNat, by omega⟩
      rw [hs]
      by_cases h13 : 0 < s ∧ ∃ h1 : a + 1 < b.length, b[a + 1] = 0
      · obtain ⟨h0, h1, h2⟩ := h13
        rw [if_pos (.inr ⟨by omega, by simp; omega, by simp [h1, h2]⟩)]
        simp only [List.length_cons, List.length_drop]
        have e : ((b.length - (b.length - (a + 1) + 1) : Nat) : Int) = (a : Int) := by omega
        rw [e]
        refine Ev.step (f := fun k => some (0, (a : Int), 13)) (fun k => ?_) (Ev.now _)
        have hw1 : wrap64 ((a : Int) + 1) = ((a + 1 : Nat) : Int) := by unfold wrap64; omega
        have hw2 : wrap64 (((a + 1 : Nat) : Int) + 0) = ((a + 1 : Nat) : Int) := by unfold wrap64; omega
        conv => lhs; unfold echelonref01_number.l0
        rw [if_pos (by omega), hw1, hw2, if_neg (by omega), if_pos rfl, if_pos (by omega), if_pos (by omega), rd_drop h1, if_pos h2]
      · have hz : 0 < s → ∀ h : a + 1 < b.length, b[a + 1] ≠ 0 := fun h0 h1 h2 => h13 ⟨h0, h1, h2⟩
        have hv := num_l0 b hb hx a s (by omega) h hz s 0 (by omega) (by omega)
        simp only [List.take_zero] at hv
        rw [if_neg (by
          rintro (h1 | ⟨h1, h2, h3⟩)
          · omega
          · simp only [List.length_drop] at h2
            have h4 : a + 1 < b.length := by omega
            exact hz (by omega) h4 (by simpa [h4] using h3))]
        simp only [List.length_drop]
        by_cases hl : a + 1 + s ≤ b.length
        · rw [if_pos hl] at hv
          rw [if_neg (by omega)]
          simp only [Int.toNat_natCast, List.length_drop]
          have e : ((b.length - (b.length - (a + 1) - s) : Nat) : Int) = ((a + 1 + s : Nat) : Int) := by omega
          rw [e]
          exact hv
        · rw [if_neg hl] at hv
          rw [if_pos (by omega)]
          simp only [List.length_cons, List.length_drop]
          have e : ((b.length - (b.length - (a + 1) + 1) : Nat) : Int) = (a : Int) := by omega
          rw [e]
          exact hv
  · have e : a = b.length := by omega
    subst e
    have hn : (((b.length : Int) ≤ (b.length : Int))) = True := eq_true (by omega)
    simp only [ge_iff_le, hn, if_true, List.drop_length]
    unfold numS
    simp only [if_true, List.length_nil, Nat.sub_zero]
    exact Ev.now _
end Go.Proofs.Ytcdlccnpbhjgkaa.Oo
namespace Go.Proofs.Ytcdlccnpbhjgkaa.Oo
open Go.RowKit Go.Maps Go.Proofs.YtcdlccnpbhjgkaaW.PrintWords Go.Proofs.YtcdlccnpbhjgkaaW.PrintLast Go.Proofs.YtcdlccnpbhjgkaaW.PrintMore
open Go.Proofs.Ytcdlccnpbhjgkaa.POrderBytes
set_option linter.unusedVariables false
set_option linter.unusedSimpArgs false
abbrev TkV := Int × List Int × List S33 × Int × Int
def TVR (b : List Int) (v : S33) (t : List Int × Int) (q : TkV) : Prop := q.2.2.2.2 = t.2 ∧ (t.2 = 0 → q = (v.f0, v.f1, v.f2, ((b.length - t.1.length : Nat) : Int), 0))
def TV (b : List Int) (t : S33 × List Int × Int) (q : TkV) : Prop := TVR b t.1 t.2 q
def TkE (b : List Int) (k : Sh) : Prop := ∀ a : Nat, a ≤ b.length → ∃ q, TV b (takeS k (b.drop a) 0) q ∧ Ev (fun n => echelonref01_Take.f n (str (ren k)) b (a : Int)) q
theorem eta33 (x : S33) : (⟨x.f0, x.f1, x.f2⟩ : S33) = x := by cases x; rfl
theorem suf_i {b r a : List Int} {i : Nat} (h : b.drop i = a ++ r) : r = b.drop (b.length - r.length) := by
  have hl := congrArg List.length h
  simp only [List.length_drop, List.length_append] at hl
  have : r = (b.drop i).drop a.length := by rw [h]; simp
  rw [List.drop_drop] at this
  by_cases hr : r.length = 0
  · have : r = [] := List.length_eq_zero_iff.1 hr
    subst this
    simp
  · conv => lhs; rw [this]
    congr 1
    omega
theorem byt_drop {b : List Int} (h : Byt b) (i : Nat) : Byt (b.drop i) := fun z hz => h z (List.mem_of_mem_drop hz)
theorem takeS_suf {b : List Int} (hx : Byt b) {k : Sh} (hg : Gd k) {a : Nat} (h : (takeS k (b.drop a) 0).2.2 = 0) : (takeS k (b.drop a) 0).2.1 = b.drop (b.length - (takeS k (b.drop a) 0).2.1.length) := by
  have h1 : takeS k (b.drop a) 0 = ((takeS k (b.drop a) 0).1, (takeS k (b.drop a) 0).2.1, 0) := Prod.ext rfl (Prod.ext rfl h)
  exact suf_i (take_can k hg _ _ _ (byt_drop hx a) h1).1
theorem tk_l0 (b : List Int) (hx : Byt b) (ks : List Sh) (hg : ∀ k ∈ ks, Gd k) (hl : ks.length ≤ 1000) (ih : ∀ k ∈ ks, TkE b k) : ∀ (d i a : Nat) (out : List S33), i + d = ks.length → a ≤ b.length → out.length = i →
    ∃ q, TVR b ⟨0, [], out ++ (takeL (ks.drop i) (b.drop a) 0).1⟩ (takeL (ks.drop i) (b.drop a) 0).2 q ∧ Ev (fun n => echelonref01_Take.l0 n b (a : Int) (strs ks) (i : Int) 0 out) q
  | 0, i, a, out, h, ha, ho => by
    refine ⟨(0, [], out, (a : Int), 0), ?_, Ev.step (f := fun n => some (0, [], out, (a : Int), 0)) (fun n => ?_) (Ev.now _)⟩
    · rw [List.drop_of_length_le (by omega), takeL_nil]
      refine ⟨rfl, fun _ => ?_⟩
      simp only [List.append_nil, List.length_drop]
      congr
      omega
    · conv => lhs; unfold echelonref01_Take.l0
      rw [if_neg (by rw [strs_len]; omega)]
  | d + 1, i, a, out, h, ha, ho => by
    have hi : i < ks.length := by omega
    have gk := hg _ (List.getElem_mem hi)
    obtain ⟨q1, ⟨hq1, hq2⟩, hE⟩ := ih _ (List.getElem_mem hi) a ha
    rw [List.drop_eq_getElem_cons hi, takeL_cons]
    have hcn : ∀ q, Ev (fun n => (if q1.2.2.2.2 = 0 then (if out.length < 2513169434916 then (echelonref01_Take.l0 n b q1.2.2.2.1 (strs ks) ((i + 1 : Nat) : Int) 0 (out ++ [(⟨q1.1, q1.2.1, q1.2.2.1⟩ : S33)])) else (none)) else (some (0, ([] : List Int), ([] : List (S33)), (a : Int), q1.2.2.2.2)))) q → Ev (fun n => echelonref01_Take.l0 n b (a : Int) (strs ks) (i : Int) 0 out) q := fun q hq => by
      refine Ev.step (f := fun n => (echelonref01_Take.f n (str (ren ks[i])) b (a : Int)).bind fun bt207 => (if bt207.2.2.2.2 = 0 then (if out.length < 2513169434916 then (echelonref01_Take.l0 n b bt207.2.2.2.1 (strs ks) ((i + 1 : Nat) : Int) 0 (out ++ [(⟨bt207.1, bt207.2.1, bt207.2.2.1⟩ : S33)])) else (none)) else (some (0, ([] : List Int), ([] : List (S33)), (a : Int), bt207.2.2.2.2)))) (fun n => ?_) (Ev.bind hE hq)
      conv => lhs; unfold echelonref01_Take.l0
      rw [if_pos (by rw [strs_len]; omega), if_pos (by omega), rd_strs hi, w_succ (by omega)]
    by_cases he : (takeS ks[i] (b.drop a) 0).2.2 = 0
    · have hq := hq2 he
      have hs := takeS_suf hx gk he
      rw [he, hs]
      obtain ⟨q, hT, hE2⟩ := tk_l0 b hx ks hg hl ih d (i + 1) (b.length - (takeS ks[i] (b.drop a) 0).2.1.length) (out ++ [(takeS ks[i] (b.drop a) 0).1]) (by omega) (Nat.sub_le _ _) (by simp [ho])
      refine ⟨q, ?_, hcn q ?_⟩
      · simp only [List.append_assoc, List.singleton_append] at hT
        exact hT
      · rw [hq]
        simp only [if_true, show (out.length < 2513169434916) = True from eq_true (by omega), eta33]
        exact hE2
    · have he1 := takeL_err (ks.drop (i + 1)) (takeS ks[i] (b.drop a) 0).2.1 (takeS ks[i] (b.drop a) 0).2.2 he
      refine ⟨(0, [], [], (a : Int), (takeS ks[i] (b.drop a) 0).2.2), ?_, hcn _ ?_⟩
      · simp only [he1]
        exact ⟨rfl, fun h0 => absurd h0 he⟩
      · rw [hq1]
        simp only [he, if_false]
        exact Ev.now _
theorem tk_l1 (b : List Int) (hx : Byt b) (hb : b.length ≤ 1000000) (k : Sh) (hg : Gd k) (ih : TkE b k) (n0 : Nat) (hn : n0 ≤ 1048576) : ∀ (d i a : Nat) (out : List S33), i + d = n0 → a ≤ b.length → out.length = i →
    ∃ q, TVR b ⟨0, [], out ++ (repT (takeS k) d (b.drop a) 0).1⟩ (repT (takeS k) d (b.drop a) 0).2 q ∧ Ev (fun n => echelonref01_Take.l1 n (str (42 :: ren k)) b (a : Int) (n0 : Int) (i : Int) 0 out) q
  | 0, i, a, out, h, ha, ho => by
    refine ⟨(0, [], out, (a : Int), 0), ?_, Ev.step (f := fun n => some (0, [], out, (a : Int), 0)) (fun n => ?_) (Ev.now _)⟩
    · simp only [repT]
      refine ⟨rfl, fun _ => ?_⟩
      simp only [List.append_nil, List.length_drop]
      congr
      omega
    · have hw : wrap64 (n0 : Int) = (n0 : Int) := by unfold wrap64; omega
      conv => lhs; unfold echelonref01_Take.l1
      rw [hw, if_neg (by omega)]
  | d + 1, i, a, out, h, ha, ho => by
    obtain ⟨q1, ⟨hq1, hq2⟩, hE⟩ := ih a ha
    have hw : wrap64 (n0 : Int) = (n0 : Int) := by unfold wrap64; omega
    have hwi : wrap64 ((i : Int) + 1) = ((i + 1 : Nat) : Int) := by unfold wrap64; omega
    have hcn : ∀ q, Ev (fun n => (if q1.2.2.2.2 = 0 then (if out.length < 2513169434916 then (echelonref01_Take.l1 n (str (42 :: ren k)) b q1.2.2.2.1 (n0 : Int) ((i + 1 : Nat) : Int) 0 (out ++ [(⟨q1.1, q1.2.1, q1.2.2.1⟩ : S33)])) else (none)) else (some (0, ([] : List Int), ([] : List (S33)), (a : Int), q1.2.2.2.2)))) q → Ev (fun n => echelonref01_Take.l1 n (str (42 :: ren k)) b (a : Int) (n0 : Int) (i : Int) 0 out) q := fun q hq => by
      refine Ev.step (f := fun n => (echelonref01_Take.f n (str (ren k)) b (a : Int)).bind fun bt207 => (if bt207.2.2.2.2 = 0 then (if out.length < 2513169434916 then (echelonref01_Take.l1 n (str (42 :: ren k)) b bt207.2.2.2.1 (n0 : Int) ((i + 1 : Nat) : Int) 0 (out ++ [(⟨bt207.1, bt207.2.1, bt207.2.2.1⟩ : S33)])) else (none)) else (some (0, ([] : List Int), ([] : List (S33)), (a : Int), bt207.2.2.2.2)))) (fun n => ?_) (Ev.bind hE hq)
      conv => lhs; unfold echelonref01_Take.l1
      rw [hw, if_pos (by omega), if_pos (by rw [str_size, List.length_cons]; omega), str_tail, hwi]
    unfold repT
    by_cases he : (takeS k (b.drop a) 0).2.2 = 0
    · have hq := hq2 he
      have hs := takeS_suf hx hg he
      rw [if_pos he, he, hs]
      obtain ⟨q, hT, hE2⟩ := tk_l1 b hx hb k hg ih n0 hn d (i + 1) (b.length - (takeS k (b.drop a) 0).2.1.length) (out ++ [(takeS k (b.drop a) 0).1]) (by omega) (Nat.sub_le _ _) (by simp [ho])
      refine ⟨q, ?_, hcn q ?_⟩
      · simp only [List.append_assoc, List.singleton_append] at hT
        exact hT
      · rw [hq]
        simp only [if_true, show (out.length < 2513169434916) = True from eq_true (by omega), eta33]
        exact hE2
    · rw [if_neg he]
      refine ⟨(0, [], [], (a : Int), (takeS k (b.drop a) 0).2.2), ?_, hcn _ ?_⟩
      · exact ⟨rfl, fun h0 => absurd h0 he⟩
      · rw [hq1]
        simp only [he, if_false]
        exact Ev.now _
theorem j1_step (x0 : ByteArray) (b : List Int) (a : Nat) (n : Int) (sm : Bool) (ha : a ≤ b.length) (hb : b.length ≤ 1000000) (h0 : 0 ≤ n) (k : Nat) : echelonref01_Take.j1 (k + 1) x0 b (a : Int) n sm 0 = echelonref01_Take.j2 k x0 b (a : Int) n sm (sm && decide (n > ((b.length - a : Nat) : Int))) 0 := by
  have e : IntKind.u64.wrap (wrap64 ((b.length : Int) - (a : Int))) = ((b.length - a : Nat) : Int) := by
    have hw : wrap64 ((b.length : Int) - (a : Int)) = ((b.length - a : Nat) : Int) := by unfold wrap64; omega
    rw [hw]
    exact u64_big (by omega) (by omega)
  conv => lhs; unfold echelonref01_Take.j1
  cases sm with
  | true => rw [if_pos rfl, e]; rfl
  | false => rw [if_neg (by decide)]; rfl
theorem j1_11 {x0 : ByteArray} {b : List Int} {a : Nat} {n : Int} (ha : a ≤ b.length) (hb : b.length ≤ 1000000) (h0 : 0 ≤ n) (h : ((b.length - a : Nat) : Int) < n) : Ev (fun k => echelonref01_Take.j1 k x0 b (a : Int) n true 0) (0, [], [], (a : Int), 11) := by
  refine Ev.step (f := fun k => echelonref01_Take.j2 k x0 b (a : Int) n true true 0) (fun k => ?_) (Ev.step (f := fun k => _) (fun k => ?_) (Ev.now _))
  · rw [j1_step x0 b a n true ha hb h0 k, decide_eq_true (show n > ((b.length - a : Nat) : Int) from h)]
    rfl
  · conv => lhs; unfold echelonref01_Take.j2
    rw [if_pos rfl]
theorem j1_13 {x0 : ByteArray} {b : List Int} {a : Nat} {n : Int} (ha : a ≤ b.length) (hb : b.length ≤ 1000000) (h0 : 0 ≤ n) (h : 1048576 < n) : Ev (fun k => echelonref01_Take.j1 k x0 b (a : Int) n false 0) (0, [], [], (a : Int), 13) := by
  refine Ev.step (f := fun k => echelonref01_Take.j2 k x0 b (a : Int) n false false 0) (fun k => ?_) (Ev.step (f := fun k => echelonref01_Take.j3 k x0 b (a : Int) n true 0) (fun k => ?_) (Ev.step (f := fun k => _) (fun k => ?_) (Ev.now _)))
  · rw [j1_step x0 b a n false ha hb h0 k]
    rfl
  · conv => lhs; unfold echelonref01_Take.j2
    rw [if_neg (by decide), if_pos (by omega)]
    rfl
  · conv => lhs; unfold echelonref01_Take.j3
    rw [if_pos rfl]
theorem j1_ok {x0 : ByteArray} {b : List Int} {a : Nat} {n : Int} {sm : Bool} (ha : a ≤ b.length) (hb : b.length ≤ 1000000) (h0 : 0 ≤ n) (h1 : sm = true → n ≤ ((b.length - a : Nat) : Int)) (h2 : sm = false → n ≤ 1048576) {q : TkV} (hq : Ev (fun k => echelonref01_Take.j3 k x0 b (a : Int) n false 0) q) : Ev (fun k => echelonref01_Take.j1 k x0 b (a : Int) n sm 0) q := by
  refine Ev.step (f := fun k => echelonref01_Take.j2 k x0 b (a : Int) n sm false 0) (fun k => ?_) (Ev.step (f := fun k => echelonref01_Take.j3 k x0 b (a : Int) n false 0) (fun k => ?_) hq)
  · rw [j1_step x0 b a n sm ha hb h0 k]
    congr 1
    cases sm with
    | false => rfl
    | true => simp; have := h1 rfl; omega
  · conv => lhs; unfold echelonref01_Take.j2
    rw [if_neg (by decide)]
    cases sm with
    | false => rw [if_neg (by have := h2 rfl; omega)]
    | true => split <;> rfl
theorem j3_byt (b : List Int) (a n : Nat) (h : a + n ≤ b.length) (hb : b.length ≤ 1000000) : Ev (fun k => echelonref01_Take.j3 k (str [98]) b (a : Int) (n : Int) false 0) (0, (b.take (a + n)).drop a, [], ((a + n : Nat) : Int), 0) := by
  have c1 : (0 : Int) ≤ (a : Int) := by omega
  have c2 : (a : Int) ≤ ((a + n : Nat) : Int) := by omega
  have c3 : ((a + n : Nat) : Int) ≤ (b.length : Int) := by omega
  have c4 : ([] : List Int).length + ((b.take (((a + n : Nat) : Int)).toNat).drop ((a : Int)).toNat).length < 140737488355328 := by
    simp only [List.length_nil, List.length_drop, List.length_take, Int.toNat_natCast]
    omega
  have hw : wrap64 (n : Int) = (n : Int) := by unfold wrap64; omega
  have hw2 : wrap64 ((a : Int) + (n : Int)) = ((a + n : Nat) : Int) := by unfold wrap64; omega
  refine Ev.step (f := fun n => _) (fun k => ?_) (Ev.now _)
  conv => lhs; unfold echelonref01_Take.j3
  rw [if_neg (by decide), if_pos (by rw [str_size]; decide), bt_0, if_pos (by decide), if_pos c1, hw, hw2, if_pos c2, if_pos c3, if_pos c4]
  simp only [Int.toNat_natCast, List.nil_append]
theorem numS_suf {b : List Int} (hx : Byt b) {a : Nat} (h : (numS (b.drop a) 0).2.2 = 0) : (numS (b.drop a) 0).2.1 = b.drop (b.length - (numS (b.drop a) 0).2.1.length) := by
  have h1 : numS (b.drop a) 0 = ((numS (b.drop a) 0).1, (numS (b.drop a) 0).2.1, 0) := Prod.ext rfl (Prod.ext rfl h)
  exact suf_i (numS_can (byt_drop hx a) h1)
set_option maxHeartbeats 1000000 in
theorem take_val (b : List Int) (hx : Byt b) (hb : b.length ≤ 1000000) : ∀ (k : Sh), Gd k → dep k ≤ 9 → (ren k).length ≤ 1000 → TkE b k
  | .mk c ks, hg, hd, hl => fun a ha => by
    have hnum := rnumber_val b hb hx a ha
    have hrg := numS_range 0 (byt_drop hx a)
    have hsf := numS_suf hx (a := a)
    rw [take_eq]
    cases hg with
    | row h =>
      rw [dep_eq] at hd
      obtain ⟨hl1, hl2⟩ := rowlen h hl
      have hr := rows_val h hd hl
      obtain ⟨q, hT, hE⟩ := tk_l0 b hx ks h hl1 (fun k hk => take_val b hx hb k (h k hk) (by have := dep_mem hk; omega) (hl2 k hk)) ks.length 0 a [] (by omega) ha rfl
      rw [if_neg (by decide), if_neg (by decide), if_neg (by decide)]
      refine ⟨q, hT, ?_⟩
      refine Ev.step (f := fun n => (echelonref01_rows.f n (str (ren (.mk 91 ks)))).bind fun t203 => (echelonref01_Take.l0 n b (a : Int) t203 0 0 ([] : List (S33)))) (fun n => ?_) (Ev.bind hr hE)
      conv => lhs; unfold echelonref01_Take.f
      rw [ren_row, if_pos (by rw [str_size, List.length_cons]; omega), bt_0, if_pos (by decide)]
    | num =>
      rw [if_pos rfl]
      generalize numS (b.drop a) 0 = m at *
      by_cases he : m.2.2 = 0
      · refine ⟨(m.1, [], [], ((b.length - m.2.1.length : Nat) : Int), 0), ⟨he.symm, fun _ => rfl⟩, ?_⟩
        refine Ev.step (f := fun n => _) (fun n => ?_) (Ev.bind hnum (f := fun n bt220 => if bt220.2.2 = 0 then (some (bt220.1, ([] : List Int), ([] : List (S33)), bt220.2.1, 0)) else (some (0, ([] : List Int), ([] : List (S33)), (a : Int), bt220.2.2))) ?_)
        · conv => lhs; unfold echelonref01_Take.f
          rw [ren_num, if_pos (by rw [str_size, List.length_cons]; omega), bt_0, if_neg (by decide)]
          rfl
        · simp only [he, if_true]
          exact Ev.now _
      · refine ⟨(0, [], [], (a : Int), m.2.2), ⟨rfl, fun h => absurd h he⟩, ?_⟩
        refine Ev.step (f := fun n => _) (fun n => ?_) (Ev.bind hnum (f := fun n bt220 => if bt220.2.2 = 0 then (some (bt220.1, ([] : List Int), ([] : List (S33)), bt220.2.1, 0)) else (some (0, ([] : List Int), ([] : List (S33)), (a : Int), bt220.2.2))) ?_)
        · conv => lhs; unfold echelonref01_Take.f
          rw [ren_num, if_pos (by rw [str_size, List.length_cons]; omega), bt_0, if_neg (by decide)]
          rfl
        · simp only [he, if_false]
          exact Ev.now _
    | byt =>
      rw [if_neg (by decide), if_pos rfl]
      unfold cntS
      generalize numS (b.drop a) 0 = m at *
      have hstep : ∀ q, Ev (fun n => if m.2.2 = 0 then (echelonref01_Take.j1 n (str [98]) b ((b.length - m.2.1.length : Nat) : Int) m.1 true 0) else (some (0, ([] : List Int), ([] : List (S33)), (a : Int), m.2.2))) q → Ev (fun n => echelonref01_Take.f n (str (ren (.mk 98 []))) b (a : Int)) q := fun q hq => by
        refine Ev.step (f := fun n => _) (fun n => ?_) (Ev.bind hnum (f := fun n bt220 => if bt220.2.2 = 0 then (echelonref01_Take.j1 n (str [98]) b bt220.2.1 bt220.1 true 0) else (some (0, ([] : List Int), ([] : List (S33)), (a : Int), bt220.2.2))) hq)
        conv => lhs; unfold echelonref01_Take.f
        rw [ren_byt, if_pos (by rw [str_size, List.length_cons]; omega), bt_0, if_neg (by decide)]
        rfl
      have hml : m.2.1.length ≤ b.length := by have := hrg.2.2.2.2; simp only [List.length_drop] at this; omega
      by_cases he : m.2.2 = 0
      · rw [if_pos he]
        by_cases h11 : (m.2.1.length : Int) < m.1
        · rw [if_pos ⟨rfl, h11⟩]
          refine ⟨(0, [], [], ((b.length - m.2.1.length : Nat) : Int), 11), ⟨rfl, fun h => by simp at h⟩, hstep _ ?_⟩
          simp only [he, if_true]
          exact j1_11 (Nat.sub_le _ _) hb hrg.1 (by omega)
        · rw [if_neg (fun h => h11 h.2), if_neg (fun h => by simp at h)]
          refine ⟨_, ⟨he.symm, fun _ => rfl⟩, hstep _ ?_⟩
          simp only [he, if_true]
          refine j1_ok (Nat.sub_le _ _) hb hrg.1 (fun _ => by omega) (fun h => by simp at h) ?_
          have hm0 := hrg.1
          obtain ⟨n, hn⟩ : ∃ n : Nat, m.1 = (n : Int) := ⟨m.1.toNat, by omega⟩
          have hle : b.length - m.2.1.length + n ≤ b.length := by omega
          have hj := j3_byt b (b.length - m.2.1.length) n hle hb
          have hss := hsf he
          have e1 : (b.take (b.length - m.2.1.length + n)).drop (b.length - m.2.1.length) = m.2.1.take n := by
            rw [List.drop_take, Nat.add_sub_cancel_left, ← hss]
          rw [e1] at hj
          have e2 : ((b.length - (m.2.1.drop n).length : Nat) : Int) = ((b.length - m.2.1.length + n : Nat) : Int) := by
            rw [List.length_drop]
            omega
          rw [hn, Int.toNat_natCast, e2]
          exact hj
      · rw [if_neg he]
        refine ⟨(0, [], [], (a : Int), m.2.2), ⟨rfl, fun h => absurd h he⟩, hstep _ ?_⟩
        simp only [he, if_false]
        exact Ev.now _
    | @lst k h =>
      rw [dep_eq, depL_cons, depL_nil] at hd
      rw [ren_lst, List.length_cons] at hl
      have hsv := some_val k h (by omega) (by omega)
      have ih := take_val b hx hb k h (by omega) (by omega)
      rw [if_neg (by decide), if_neg (by decide), if_pos rfl, takeA_cons]
      unfold cntS
      generalize numS (b.drop a) 0 = m at *
      have hstep : ∀ q, Ev (fun n => if m.2.2 = 0 then (echelonref01_Take.j1 n (str (42 :: ren k)) b ((b.length - m.2.1.length : Nat) : Int) m.1 (someS k) 0) else (some (0, ([] : List Int), ([] : List (S33)), (a : Int), m.2.2))) q → Ev (fun n => echelonref01_Take.f n (str (ren (.mk 42 [k]))) b (a : Int)) q := fun q hq => by
        have hq2 : Ev (fun n => if m.2.2 = 0 then ((echelonref01_Some.f n (str (ren k))).bind fun t223 => (echelonref01_Take.j1 n (str (42 :: ren k)) b ((b.length - m.2.1.length : Nat) : Int) m.1 t223 0)) else (some (0, ([] : List Int), ([] : List (S33)), (a : Int), m.2.2))) q := by
          by_cases he : m.2.2 = 0
          · simp only [he, if_true] at hq ⊢
            exact Ev.bind hsv hq
          · simp only [he, if_false] at hq ⊢
            exact hq
        refine Ev.step (f := fun n => _) (fun n => ?_) (Ev.bind hnum (f := fun n bt220 => if bt220.2.2 = 0 then ((echelonref01_Some.f n (str (ren k))).bind fun t223 => (echelonref01_Take.j1 n (str (42 :: ren k)) b bt220.2.1 bt220.1 t223 0)) else (some (0, ([] : List Int), ([] : List (S33)), (a : Int), bt220.2.2))) hq2)
        conv => lhs; unfold echelonref01_Take.f
        rw [ren_lst, if_pos (by rw [str_size, List.length_cons]; omega), bt_0, if_neg (by decide), str_tail]
        simp only [str_size, List.length_cons, show ((1 : Int) ≤ (((ren k).length + 1 : Nat) : Int)) = True from eq_true (by omega), if_true]
        rfl
      have hml : m.2.1.length ≤ b.length := by have := hrg.2.2.2.2; simp only [List.length_drop] at this; omega
      by_cases he : m.2.2 = 0
      · rw [if_pos he]
        by_cases h11 : someS k = true ∧ (m.2.1.length : Int) < m.1
        · rw [if_pos h11]
          refine ⟨(0, [], [], ((b.length - m.2.1.length : Nat) : Int), 11), ⟨by simp [repT], fun h => by simp [repT] at h⟩, hstep _ ?_⟩
          simp only [he, if_true, h11.1]
          exact j1_11 (Nat.sub_le _ _) hb hrg.1 (by omega)
        · rw [if_neg h11]
          by_cases h13 : someS k = false ∧ 1048576 < m.1
          · rw [if_pos h13]
            refine ⟨(0, [], [], ((b.length - m.2.1.length : Nat) : Int), 13), ⟨by simp [repT], fun h => by simp [repT] at h⟩, hstep _ ?_⟩
            simp only [he, if_true, h13.1]
            exact j1_13 (Nat.sub_le _ _) hb hrg.1 h13.2
          · rw [if_neg h13]
            have hm0 := hrg.1
            have hs1 : someS k = true → m.1 ≤ (m.2.1.length : Int) := fun h => by
              have : ¬ ((m.2.1.length : Int) < m.1) := fun h' => h11 ⟨h, h'⟩
              omega
            have hs2 : someS k = false → m.1 ≤ 1048576 := fun h => by
              have : ¬ (1048576 < m.1) := fun h' => h13 ⟨h, h'⟩
              omega
            obtain ⟨n, hn⟩ : ∃ n : Nat, m.1 = (n : Int) := ⟨m.1.toNat, by omega⟩
            have hnb : n ≤ 1048576 := by
              cases hs : someS k with
              | true => have := hs1 hs; omega
              | false => have := hs2 hs; omega
            obtain ⟨q, hT, hE⟩ := tk_l1 b hx hb k h ih n hnb n 0 (b.length - m.2.1.length) [] (by omega) (Nat.sub_le _ _) rfl
            have hss := hsf he
            rw [he]
            rw [hn, Int.toNat_natCast]
            rw [← hss] at hT
            refine ⟨q, hT, hstep _ ?_⟩
            simp only [he, if_true]
            refine j1_ok (Nat.sub_le _ _) hb hrg.1 (fun h => by have := hs1 h; omega) hs2 ?_
            refine Ev.step (f := fun n' => echelonref01_Take.l1 n' (str (42 :: ren k)) b ((b.length - m.2.1.length : Nat) : Int) (n : Int) 0 0 []) (fun n' => ?_) hE
            conv => lhs; unfold echelonref01_Take.j3
            rw [if_neg (by decide), if_pos (by rw [str_size, List.length_cons]; omega), bt_0, if_neg (by decide), hn]
      · rw [if_neg he]
        have hz := hrg.2.2.1 he
        refine ⟨(0, [], [], (a : Int), m.2.2), ⟨by simp [repT], fun h => by simp [repT] at h; exact absurd h he⟩, hstep _ ?_⟩
        simp only [he, if_false]
        exact Ev.now _
end Go.Proofs.Ytcdlccnpbhjgkaa.Oo
namespace Go.Proofs.Ytcdlccnpbhjgkaa.Oo
open Go.RowKit Go.Maps Go.Proofs.YtcdlccnpbhjgkaaW.PrintWords Go.Proofs.YtcdlccnpbhjgkaaW.PrintLast Go.Proofs.YtcdlccnpbhjgkaaW.PrintMore
open Go.Proofs.Ytcdlccnpbhjgkaa.POrderBytes
set_option linter.unusedVariables false
set_option linter.unusedSimpArgs false
theorem rd33 {xs : List S33} {i : Nat} (h : i < xs.length) : rd_T33 xs (i : Int) = xs[i] := by simp [rd_T33, h]
def bigN (y : S33) : Bool := decide (1099511627776 ≤ y.f0)
def nmR (x : S33) : List Int := x.f2.map (·.f0)
theorem wf_inner {x : S33} (h : WfS x) {y : S33} (hy : y ∈ x.f2) : WfS y := by
  cases h with
  | mk a b c => exact c y hy
theorem wf_0 {x : S33} (h : WfS x) : 0 ≤ x.f0 := by
  cases h with
  | mk a b c => exact a
theorem tk19_l1 (xs : List S33) (z0 : Int) (z1 : List Int) (i : Nat) (hi : i < xs.length) (hw : WfS xs[i]) (hl : xs[i].f2.length ≤ 1000) (x11 : List (List Int)) (hx11 : x11.length ≤ 1000000) {q : List (List Int) × Int} (hq : Ev (fun k => echelonref19_take.l0 k (x11 ++ [nmR xs[i]]) ((i + 1 : Nat) : Int) z0 z1 xs) q) (hi2 : i ≤ 1000000) : ∀ (d c : Nat), c + d = xs[i].f2.length →
    Ev (fun k => echelonref19_take.l1 k x11 (i : Int) ((xs[i].f2.take c).map (·.f0)) (c : Int) z0 z1 xs) (if (xs[i].f2.drop c).any bigN then ([], 13) else q)
  | 0, c, h => by
    have c1 : (0 : Int) ≤ (i : Int) := by omega
    have c2 : (i : Int) < (xs.length : Int) := by omega
    have c3 : ¬ ((c : Int) < (xs[i].f2.length : Int)) := by omega
    have c4 : x11.length < 5864062014805 := by omega
    rw [List.drop_of_length_le (by omega), List.any_nil, if_neg (by decide)]
    have e : (xs[i].f2.take c).map (·.f0) = nmR xs[i] := by rw [List.take_of_length_le (by omega)]; rfl
    rw [e]
    have hwi : wrap64 ((i : Int) + 1) = ((i + 1 : Nat) : Int) := by unfold wrap64; omega
    refine Ev.step (f := fun k => _) (fun k => ?_) hq
    conv => lhs; unfold echelonref19_take.l1
    rw [if_pos c1, if_pos c2, rd33 hi, if_neg c3, if_pos c4, hwi]
  | d + 1, c, h => by
    have hc : c < xs[i].f2.length := by omega
    have c1 : (0 : Int) ≤ (i : Int) := by omega
    have c2 : (i : Int) < (xs.length : Int) := by omega
    have c3 : ((c : Int) < (xs[i].f2.length : Int)) := by omega
    have c4 : (0 : Int) ≤ (c : Int) := by omega
    have c5 : ((xs[i].f2.take c).map (·.f0)).length < 17592186044416 := by simp; omega
    have h0 := wf_0 (wf_inner hw (List.getElem_mem hc))
    rw [List.drop_eq_getElem_cons hc, List.any_cons]
    by_cases hb : 1099511627776 ≤ xs[i].f2[c].f0
    · have e : bigN xs[i].f2[c] = true := decide_eq_true hb
      rw [e, Bool.true_or, if_pos rfl]
      refine Ev.step (f := fun k => some ([], 13)) (fun k => ?_) (Ev.now _)
      conv => lhs; unfold echelonref19_take.l1
      rw [if_pos c1, if_pos c2, rd33 hi, if_pos c3, if_pos c4, rd33 hc, if_pos (show xs[i].f2[c].f0 ≥ 1099511627776 from hb)]
    · have e : bigN xs[i].f2[c] = false := decide_eq_false hb
      rw [e, Bool.false_or]
      have ih := tk19_l1 xs z0 z1 i hi hw hl x11 hx11 hq hi2 d (c + 1) (by omega)
      rw [List.take_succ_eq_append_getElem hc, List.map_append] at ih
      have hb2 : ¬ (xs[i].f2[c].f0 ≥ 1099511627776) := hb
      have hwi : wrap64 ((c : Int) + 1) = ((c + 1 : Nat) : Int) := by unfold wrap64; omega
      have hwv : wrap64 xs[i].f2[c].f0 = xs[i].f2[c].f0 := by unfold wrap64; omega
      refine Ev.step (f := fun k => _) (fun k => ?_) ih
      conv => lhs; unfold echelonref19_take.l1
      rw [if_pos c1, if_pos c2, rd33 hi, if_pos c3, if_pos c4, rd33 hc, if_neg hb2, if_pos c5, hwi, hwv]
      rfl
theorem tk19_l0 (xs : List S33) (z0 : Int) (z1 : List Int) (hw : ∀ x ∈ xs, WfS x) (hl : ∀ x ∈ xs, x.f2.length ≤ 1000) (hn : xs.length ≤ 1000000) : ∀ (d i : Nat) (x11 : List (List Int)), i + d = xs.length → x11.length = i →
    Ev (fun k => echelonref19_take.l0 k x11 (i : Int) z0 z1 xs) (if (xs.drop i).any (fun x => x.f2.any bigN) then ([], 13) else (x11 ++ (xs.drop i).map nmR, 0))
  | 0, i, x11, h, ho => by
    have c1 : ¬ ((i : Int) < (xs.length : Int)) := by omega
    rw [List.drop_of_length_le (by omega), List.any_nil, if_neg (by decide), List.map_nil, List.append_nil]
    refine Ev.step (f := fun k => some (x11, 0)) (fun k => ?_) (Ev.now _)
    conv => lhs; unfold echelonref19_take.l0
    rw [if_neg c1]
  | d + 1, i, x11, h, ho => by
    have hi : i < xs.length := by omega
    have c1 : ((i : Int) < (xs.length : Int)) := by omega
    have ih := tk19_l0 xs z0 z1 hw hl hn d (i + 1) (x11 ++ [nmR xs[i]]) (by omega) (by simp [ho])
    have h1 := tk19_l1 xs z0 z1 i hi (hw _ (List.getElem_mem hi)) (hl _ (List.getElem_mem hi)) x11 (by omega) ih (by omega) xs[i].f2.length 0 (by omega)
    rw [List.drop_eq_getElem_cons hi, List.any_cons, List.map_cons]
    have e : (if (xs[i].f2.drop 0).any bigN then (([], 13) : List (List Int) × Int) else (if (xs.drop (i + 1)).any (fun x => x.f2.any bigN) then ([], 13) else ((x11 ++ [nmR xs[i]]) ++ (xs.drop (i + 1)).map nmR, 0))) = (if (xs[i].f2.any bigN || (xs.drop (i + 1)).any (fun x => x.f2.any bigN)) then ([], 13) else (x11 ++ nmR xs[i] :: (xs.drop (i + 1)).map nmR, 0)) := by
      rw [List.drop_zero]
      cases xs[i].f2.any bigN <;> cases (xs.drop (i + 1)).any (fun x => x.f2.any bigN) <;> simp
    rw [e] at h1
    refine Ev.step (f := fun k => echelonref19_take.l1 k x11 (i : Int) ([] : List Int) 0 z0 z1 xs) (fun k => ?_) h1
    conv => lhs; unfold echelonref19_take.l0
    rw [if_pos c1]
theorem take19_val (tag : Int) (l : List UInt8) (j : Nat) (hp : parseF l = some (kRows j)) (hr : l = ren (kRows j)) (hj : 0 < j) (hj10 : j ≤ 10) (bs : List Int) (hx : Byt bs) (hn : bs.length ≤ 100000) (hg : Gd (kRows j)) (hd : dep (kRows j) ≤ 9) (hl : l.length ≤ 64) : Ev (fun k => echelonref19_take.f k tag (str l) bs) (takeO l tag bs) := by
  unfold echelonref19_take.f takeO
  cases bs with
  | nil =>
    simp only [List.length_nil, show ((0 : Nat) : Int) = 0 from rfl, if_true]
    exact Ev.now _
  | cons t r =>
    have c1 : (((t :: r).length : Int) = 0) = False := eq_false (by rw [List.length_cons]; omega)
    have c2 : ((0 : Int) < ((t :: r).length : Int)) = True := eq_true (by rw [List.length_cons]; omega)
    have c3 : rd (t :: r) 0 = t := rfl
    simp only [c1, c2, c3, if_true, if_false]
    by_cases ht : t = tag
    · have htn : ¬ (t ≠ tag) := fun h => h ht
      simp only [ht, if_true]
      rw [if_neg (by simp)]
      obtain ⟨q, hT, hE⟩ := take_val (t :: r) hx (by omega) (kRows j) hg hd (by rw [← hr]; omega) 1 (by simp)
      rw [← hr, ht] at hE
      refine Ev.bind hE ?_
      have hdr : (t :: r).drop 1 = r := rfl
      rw [hdr] at hT
      obtain ⟨hT1, hT2⟩ := hT
      have hxr : Byt r := fun z hz => hx z (by simp [hz])
      have hts := top_shape hp hj hxr
      have hrs := rows_shape hj 0 hxr
      have hwf := take_wf (kRows j) r 0 hxr
      unfold takeTop
      rw [hp]
      simp only
      by_cases he : (takeS (kRows j) r 0).2.2 = 0
      · rw [hT2 he]
        simp only [if_true, he]
        have hlr := (take_left (kRows j) r 0 hxr).2
        by_cases hrest : (takeS (kRows j) r 0).2.1 = []
        · have c4 : ((((t :: r).length - ([] : List Int).length : Nat) : Int) < ((tag :: r).length : Int)) = False := eq_false (by simp)
          simp only [hrest, c4, if_false, if_true]
          rw [if_neg (by simp)]
          have h0 := tk19_l0 (takeS (kRows j) r 0).1.f2 (takeS (kRows j) r 0).1.f0 (takeS (kRows j) r 0).1.f1 (fun x hx => wf_inner hwf hx) (fun x hx => by have := hrs.2 x hx; omega) (by have := hrs.1; simp only [List.length_cons] at hn; omega) (takeS (kRows j) r 0).1.f2.length 0 [] (by omega) rfl
          rw [List.drop_zero, List.nil_append] at h0
          exact h0
        · have hpos := List.length_pos_iff.2 hrest
          have c4 : ((((t :: r).length - (takeS (kRows j) r 0).2.1.length : Nat) : Int) < ((tag :: r).length : Int)) = True := eq_true (by simp only [List.length_cons]; omega)
          simp only [c4, if_true, hrest, if_false]
          rw [if_pos (by decide)]
          exact Ev.now _
      · have he2 : ¬ (q.2.2.2.2 = 0) := by rw [hT1]; exact he
        simp only [he, he2, if_false]
        rw [if_pos he, hT1]
        exact Ev.now _
    · simp only [ht, if_false]
      rw [if_pos ht]
      exact Ev.now _
end Go.Proofs.Ytcdlccnpbhjgkaa.Oo
namespace Go.Proofs.Ytcdlccnpbhjgkaa.Oo
open Go.RowKit Go.Maps Go.Proofs.YtcdlccnpbhjgkaaW.PrintWords Go.Proofs.YtcdlccnpbhjgkaaW.PrintLast Go.Proofs.YtcdlccnpbhjgkaaW.PrintMore
open Go.Proofs.Ytcdlccnpbhjgkaa.POrderBytes
set_option linter.unusedVariables false
set_option linter.unusedSimpArgs false
theorem takeO_in {l : List UInt8} {tag : Int} {j : Nat} (hp : parseF l = some (kRows j)) (hj : 0 < j) {bs : List Int} (hx : Byt bs) : ∀ ns ∈ (takeO l tag bs).1, ∀ n ∈ ns, 0 ≤ n ∧ n < 1099511627776 := by
  unfold takeO
  cases bs with
  | nil => simp
  | cons t r =>
    have hxr : Byt r := fun z hz => hx z (by simp [hz])
    have hts := top_shape hp hj hxr
    simp only
    split
    · simp
    · split
      · simp
      · split
        · simp
        · next hb =>
          intro ns hns n hn
          unfold numsOf at hns
          obtain ⟨x, hxm, rfl⟩ := List.mem_map.1 hns
          obtain ⟨y, hym, rfl⟩ := List.mem_map.1 hn
          refine ⟨wf_0 (wf_inner (wf_inner hts.2.2 hxm) hym), ?_⟩
          rcases Int.lt_or_le y.f0 1099511627776 with h | h
          · exact h
          · exfalso
            apply hb
            unfold bigV
            exact List.any_eq_true.2 ⟨x, hxm, List.any_eq_true.2 ⟨y, hym, decide_eq_true h⟩⟩
theorem putL_numsB : ∀ (vs : List S33), (∀ y ∈ vs, 0 ≤ y.f0 ∧ y.f0 < 1099511627776) → putL (List.replicate vs.length (.mk 110 [])) vs = numsB (vs.map (·.f0))
  | [], _ => by simp [putL, numsB]
  | v :: vs, h => by
    have hv := h v (by simp)
    rw [List.length_cons, List.replicate_succ, List.map_cons]
    conv => lhs; unfold putL
    rw [put_eq, if_pos rfl, putL_numsB vs (fun y hy => h y (by simp [hy]))]
    have e : uN v.f0 = v.f0 := uN_id (by omega) (by omega)
    simp [numsB, e]
theorem gd_rows (j : Nat) : Gd (kRows j) := .lst (.row (fun k hk => by rw [List.eq_of_mem_replicate hk]; exact .num))
theorem takeO_can {l : List UInt8} {tag : Int} {j : Nat} (hp : parseF l = some (kRows j)) (hj : 0 < j) {bs : List Int} (hx : Byt bs) (h : (takeO l tag bs).2 = 0) : formB tag (takeO l tag bs).1 = bs := by
  have hin := takeO_in (tag := tag) hp hj hx
  unfold takeO at h hin ⊢
  cases bs with
  | nil => simp at h
  | cons t r =>
    have hxr : Byt r := fun z hz => hx z (by simp [hz])
    have hrs := rows_shape hj 0 hxr
    simp only at h hin ⊢
    by_cases ht : t ≠ tag
    · rw [if_pos ht] at h; simp at h
    · rw [if_neg ht] at h hin ⊢
      by_cases h1 : (takeTop l r).2 ≠ 0
      · rw [if_pos h1] at h; exact absurd h h1
      · rw [if_neg h1] at h hin ⊢
        by_cases hb : bigV (takeTop l r).1 = true
        · rw [if_pos hb] at h; simp at h
        · rw [if_neg hb] at hin ⊢
          simp only at hin ⊢
          unfold takeTop at h1 hin ⊢
          rw [hp] at h1 hin ⊢
          simp only at h1 hin ⊢
          by_cases he : (takeS (kRows j) r 0).2.2 = 0
          · rw [if_pos he] at h1 hin ⊢
            by_cases hr : (takeS (kRows j) r 0).2.1 = []
            · rw [if_pos hr] at hin ⊢
              simp only at hin ⊢
              have h2 : takeS (kRows j) r 0 = ((takeS (kRows j) r 0).1, [], 0) := Prod.ext rfl (Prod.ext hr he)
              obtain ⟨hc, _⟩ := take_can (kRows j) (gd_rows j) _ _ _ hxr h2
              rw [List.append_nil] at hc
              generalize (takeS (kRows j) r 0).1 = v at *
              unfold kRows at hc
              rw [put_eq, if_neg (by decide), if_neg (by decide), if_pos rfl, putA_cons] at hc
              unfold formB
              have ht' : t = tag := Decidable.not_not.1 ht
              rw [ht', hc]
              congr 2
              · simp [numsOf]
              · congr 1
                unfold numsOf
                rw [List.map_map]
                apply List.map_congr_left
                intro x hxm
                have hl := hrs.2 x hxm
                subst hl
                unfold kRow
                rw [put_eq, if_neg (by decide), if_neg (by decide), if_neg (by decide)]
                refine (putL_numsB x.f2 (fun y hy => hin (x.f2.map (·.f0)) ?_ y.f0 (List.mem_map.2 ⟨y, hy, rfl⟩))).symm
                exact List.mem_map.2 ⟨x, hxm, rfl⟩
            · rw [if_neg hr] at h1; simp at h1
          · rw [if_neg he] at h1; exact absurd he h1
theorem rd_L {xs : List (List Int)} {i : Nat} (h : i < xs.length) : rd_L9 xs (i : Int) = xs[i] := by simp [rd_L9, h]
theorem rP_l0 (xs : List (List Int)) (hn : xs.length ≤ 100000) (h4 : ∀ ns ∈ xs, ns.length = 4) (hp : ∀ ns ∈ xs, ∀ n ∈ ns, 0 ≤ n ∧ n < 1099511627776) : ∀ (d i : Nat) (out : List S82), i + d = xs.length → out.length = i →
    Ev (fun k => echelonref19_Parse.l0 k xs out (i : Int)) (if (xs.drop i).any bad82 then ([], 13) else (out ++ (xs.drop i).map mk82, 0))
  | 0, i, out, h, ho => by
    have c1 : ¬ ((i : Int) < (xs.length : Int)) := by omega
    rw [List.drop_of_length_le (by omega), List.any_nil, if_neg (by decide), List.map_nil, List.append_nil]
    refine Ev.step (f := fun k => some (out, 0)) (fun k => ?_) (Ev.now _)
    conv => lhs; unfold echelonref19_Parse.l0
    rw [if_neg c1]
  | d + 1, i, out, h, ho => by
    have hi : i < xs.length := by omega
    have c1 : ((i : Int) < (xs.length : Int)) := by omega
    have c2 : (0 : Int) ≤ (i : Int) := by omega
    have hm := List.getElem_mem hi
    have hl := h4 _ hm
    have hpx := hp _ hm
    have ih := rP_l0 xs hn h4 hp d (i + 1) (out ++ [mk82 xs[i]]) (by omega) (by simp [ho])
    rw [List.drop_eq_getElem_cons hi, List.any_cons, List.map_cons]
    have c7 : out.length < 4398046511104 := by omega
    have hwi : wrap64 ((i : Int) + 1) = ((i + 1 : Nat) : Int) := by unfold wrap64; omega
    have hrd := rd_L hi
    generalize xs[i] = ns at *
    obtain ⟨a0, a1, a2, a3, rfl⟩ : ∃ a0 a1 a2 a3, ns = [a0, a1, a2, a3] := by
      match ns, hl with
      | [a0, a1, a2, a3], _ => exact ⟨a0, a1, a2, a3, rfl⟩
    have p0 := hpx a0 (by simp)
    by_cases hb : a0 = 0
    · have e : bad82 [a0, a1, a2, a3] = true := by simp [bad82, hb]
      rw [e, Bool.true_or, if_pos rfl]
      refine Ev.step (f := fun k => some ([], 13)) (fun k => ?_) (Ev.now _)
      conv => lhs; unfold echelonref19_Parse.l0
      rw [if_pos c1, if_pos c2, hrd, if_pos (show (0 : Int) < (([a0, a1, a2, a3] : List Int).length : Int) by simp), if_pos (show rd [a0, a1, a2, a3] 0 < 1 by show a0 < 1; omega)]
    · have e : bad82 [a0, a1, a2, a3] = false := by simp [bad82, hb]
      rw [e, Bool.false_or]
      have e2 : out ++ mk82 [a0, a1, a2, a3] :: (xs.drop (i + 1)).map mk82 = (out ++ [mk82 [a0, a1, a2, a3]]) ++ (xs.drop (i + 1)).map mk82 := by simp
      rw [e2]
      refine Ev.step (f := fun k => _) (fun k => ?_) ih
      conv => lhs; unfold echelonref19_Parse.l0
      rw [if_pos c1, if_pos c2, hrd, if_pos (show (0 : Int) < (([a0, a1, a2, a3] : List Int).length : Int) by simp), if_neg (show ¬ (rd [a0, a1, a2, a3] 0 < 1) by show ¬ (a0 < 1); omega),
        if_pos (show (1 : Int) < (([a0, a1, a2, a3] : List Int).length : Int) by simp), if_pos (show (2 : Int) < (([a0, a1, a2, a3] : List Int).length : Int) by simp), if_pos (show (3 : Int) < (([a0, a1, a2, a3] : List Int).length : Int) by simp), if_pos c7, hwi]
      rfl
theorem rParse_val (bs : List Int) (hx : Byt bs) (hn : bs.length ≤ 100000) : Ev (fun k => echelonref19_Parse.f k bs) (parseP bs) := by
  have ht := take19_val 1 sh4 4 p_4 (by decide +kernel) (by decide) (by decide) bs hx hn (gd_rows 4) (by decide +kernel) (by decide)
  have hlen := takeO_len (tag := 1) p_4 (by decide) hx hn
  have hin := takeO_in (tag := 1) p_4 (by decide) hx
  unfold echelonref19_Parse.f parseP
  refine Ev.bind ht ?_
  generalize takeO sh4 1 bs = r at *
  by_cases h : r.2 = 0
  · simp only [h, if_true]
    rw [if_neg (by decide)]
    have h0 := rP_l0 r.1 hlen.1 hlen.2 hin r.1.length 0 [] (by omega) rfl
    rw [List.drop_zero, List.nil_append] at h0
    exact h0
  · simp only [h, if_false]
    rw [if_pos h]
    exact Ev.now _
theorem rPR_l0 (xs : List (List Int)) (hn : xs.length ≤ 100000) (h4 : ∀ ns ∈ xs, ns.length = 6) : ∀ (d i : Nat) (out : List S99), i + d = xs.length → out.length = i →
    Ev (fun k => echelonref19_ParseReports.l0 k xs out (i : Int)) (if (xs.drop i).any bad99 then ([], 13) else (out ++ (xs.drop i).map mk99, 0))
  | 0, i, out, h, ho => by
    have c1 : ¬ ((i : Int) < (xs.length : Int)) := by omega
    rw [List.drop_of_length_le (by omega), List.any_nil, if_neg (by decide), List.map_nil, List.append_nil]
    refine Ev.step (f := fun k => some (out, 0)) (fun k => ?_) (Ev.now _)
    conv => lhs; unfold echelonref19_ParseReports.l0
    rw [if_neg c1]
  | d + 1, i, out, h, ho => by
    have hi : i < xs.length := by omega
    have c1 : ((i : Int) < (xs.length : Int)) := by omega
    have c2 : (0 : Int) ≤ (i : Int) := by omega
    have hm := List.getElem_mem hi
    have hl := h4 _ hm
    have ih := rPR_l0 xs hn h4 d (i + 1) (out ++ [mk99 xs[i]]) (by omega) (by simp [ho])
    rw [List.drop_eq_getElem_cons hi, List.any_cons, List.map_cons]
    have c7 : out.length < 2932031007402 := by omega
    have hwi : wrap64 ((i : Int) + 1) = ((i + 1 : Nat) : Int) := by unfold wrap64; omega
    have hrd := rd_L hi
    generalize xs[i] = ns at *
    obtain ⟨a0, a1, a2, a3, a4, a5, rfl⟩ : ∃ a0 a1 a2 a3 a4 a5, ns = [a0, a1, a2, a3, a4, a5] := by
      match ns, hl with
      | [a0, a1, a2, a3, a4, a5], _ => exact ⟨a0, a1, a2, a3, a4, a5, rfl⟩
    by_cases hb : 1 < a5
    · have e : bad99 [a0, a1, a2, a3, a4, a5] = true := decide_eq_true hb
      rw [e, Bool.true_or, if_pos rfl]
      refine Ev.step (f := fun k => some ([], 13)) (fun k => ?_) (Ev.now _)
      conv => lhs; unfold echelonref19_ParseReports.l0
      rw [if_pos c1, if_pos c2, hrd, if_pos (show (5 : Int) < (([a0, a1, a2, a3, a4, a5] : List Int).length : Int) by simp), if_pos (show rd [a0, a1, a2, a3, a4, a5] 5 > 1 from hb)]
    · have e : bad99 [a0, a1, a2, a3, a4, a5] = false := decide_eq_false hb
      rw [e, Bool.false_or]
      have e2 : out ++ mk99 [a0, a1, a2, a3, a4, a5] :: (xs.drop (i + 1)).map mk99 = (out ++ [mk99 [a0, a1, a2, a3, a4, a5]]) ++ (xs.drop (i + 1)).map mk99 := by simp
      rw [e2]
      refine Ev.step (f := fun k => _) (fun k => ?_) ih
      conv => lhs; unfold echelonref19_ParseReports.l0
      rw [if_pos c1, if_pos c2, hrd, if_pos (show (5 : Int) < (([a0, a1, a2, a3, a4, a5] : List Int).length : Int) by simp), if_neg (show ¬ (rd [a0, a1, a2, a3, a4, a5] 5 > 1) from hb),
        if_pos (show (0 : Int) < (([a0, a1, a2, a3, a4, a5] : List Int).length : Int) by simp), if_pos (show (1 : Int) < (([a0, a1, a2, a3, a4, a5] : List Int).length : Int) by simp), if_pos (show (2 : Int) < (([a0, a1, a2, a3, a4, a5] : List Int).length : Int) by simp), if_pos (show (3 : Int) < (([a0, a1, a2, a3, a4, a5] : List Int).length : Int) by simp), if_pos (show (4 : Int) < (([a0, a1, a2, a3, a4, a5] : List Int).length : Int) by simp), if_pos c7, hwi]
      rfl
theorem rParseReports_val (bs : List Int) (hx : Byt bs) (hn : bs.length ≤ 100000) : Ev (fun k => echelonref19_ParseReports.f k bs) (parseR bs) := by
  have ht := take19_val 2 sh6 6 p_6 (by decide +kernel) (by decide) (by decide) bs hx hn (gd_rows 6) (by decide +kernel) (by decide)
  have hlen := takeO_len (tag := 2) p_6 (by decide) hx hn
  unfold echelonref19_ParseReports.f parseR
  refine Ev.bind ht ?_
  generalize takeO sh6 2 bs = r at *
  by_cases h : r.2 = 0
  · simp only [h, if_true]
    rw [if_neg (by decide)]
    have h0 := rPR_l0 r.1 hlen.1 hlen.2 r.1.length 0 [] (by omega) rfl
    rw [List.drop_zero, List.nil_append] at h0
    exact h0
  · simp only [h, if_false]
    rw [if_pos h]
    exact Ev.now _
theorem parseP_can {bs : List Int} (hx : Byt bs) (hn : bs.length ≤ 100000) (h : (parseP bs).2 = 0) : formB 1 ((parseP bs).1.map oN) = bs := by
  have hlen := takeO_len (tag := 1) p_4 (by decide) hx hn
  have hc := takeO_can (tag := 1) p_4 (by decide) hx
  unfold parseP at h ⊢
  generalize takeO sh4 1 bs = r at *
  split at h
  · next h1 => exact absurd h h1
  · next h1 =>
    rw [if_neg h1]
    split at h
    · simp at h
    · next h2 =>
      rw [if_neg h2]
      simp only [List.map_map]
      have e : r.1.map (oN ∘ mk82) = r.1 := by
        conv => rhs; rw [← List.map_id r.1]
        apply List.map_congr_left
        intro ns hns
        have hl := hlen.2 ns hns
        match ns, hl with
        | [a0, a1, a2, a3], _ => rfl
      rw [e]
      exact hc (Decidable.not_not.1 h1)
theorem parseR_can {bs : List Int} (hx : Byt bs) (hn : bs.length ≤ 100000) (h : (parseR bs).2 = 0) : formB 2 ((parseR bs).1.map rN) = bs := by
  have hlen := takeO_len (tag := 2) p_6 (by decide) hx hn
  have hin := takeO_in (tag := 2) p_6 (by decide) hx
  have hc := takeO_can (tag := 2) p_6 (by decide) hx
  unfold parseR at h ⊢
  generalize takeO sh6 2 bs = r at *
  split at h
  · next h1 => exact absurd h h1
  · next h1 =>
    rw [if_neg h1]
    split at h
    · simp at h
    · next h2 =>
      rw [if_neg h2]
      simp only [List.map_map]
      have e : r.1.map (rN ∘ mk99) = r.1 := by
        conv => rhs; rw [← List.map_id r.1]
        apply List.map_congr_left
        intro ns hns
        have hl := hlen.2 ns hns
        have hi := hin ns hns
        have hb : bad99 ns = false := by
          cases hb : bad99 ns with
          | false => rfl
          | true => exact absurd (List.any_eq_true.2 ⟨ns, hns, hb⟩) h2
        match ns, hl with
        | [a0, a1, a2, a3, a4, a5], _ =>
          have p5 := hi a5 (by simp)
          have hb' : ¬ (1 < a5) := of_decide_eq_false hb
          simp only [Function.comp_apply, mk99, rN, id]
          have e5 : (if ((a5 == 1) : Bool) = true then (1 : Int) else 0) = a5 := by
            by_cases h : a5 = 1
            · subst h; rfl
            · have : (a5 == 1) = false := beq_eq_false_iff_ne.2 h
              rw [this]
              simp
              omega
          simp only [List.getD_cons_zero, List.getD_cons_succ]
          rw [e5]
      rw [e]
      exact hc (Decidable.not_not.1 h1)
theorem parseP_len {bs : List Int} (hx : Byt bs) (hn : bs.length ≤ 100000) : (parseP bs).1.length ≤ bs.length := by
  by_cases h : (parseP bs).2 = 0
  · have hc := parseP_can hx hn h
    have hj : ∀ ns ∈ (parseP bs).1.map oN, ns.length = 4 := fun ns hns => by obtain ⟨o, _, rfl⟩ := List.mem_map.1 hns; rfl
    have hf := (flat_len hj).2
    have h2 := congrArg List.length hc
    unfold formB at h2
    simp only [List.length_cons, List.length_append] at h2
    rw [List.length_map] at hf
    omega
  · unfold parseP at h ⊢
    split
    · simp
    · next h1 =>
      rw [if_neg h1] at h
      split
      · simp
      · next h2 => rw [if_neg h2] at h; exact absurd rfl h
theorem parseR_len {bs : List Int} (hx : Byt bs) (hn : bs.length ≤ 100000) : (parseR bs).1.length ≤ bs.length := by
  by_cases h : (parseR bs).2 = 0
  · have hc := parseR_can hx hn h
    have hj : ∀ ns ∈ (parseR bs).1.map rN, ns.length = 6 := fun ns hns => by obtain ⟨o, _, rfl⟩ := List.mem_map.1 hns; rfl
    have hf := (flat_len hj).2
    have h2 := congrArg List.length hc
    unfold formB at h2
    simp only [List.length_cons, List.length_append] at h2
    rw [List.length_map] at hf
    omega
  · unfold parseR at h ⊢
    split
    · simp
    · next h1 =>
      rw [if_neg h1] at h
      split
      · simp
      · next h2 => rw [if_neg h2] at h; exact absurd rfl h
theorem not_both (bs : List Int) : ¬ ((parseP bs).2 = 0 ∧ (parseR bs).2 = 0) := by
  rintro ⟨h1, h2⟩
  unfold parseP at h1
  unfold parseR at h2
  have a : (takeO sh4 1 bs).2 = 0 := by
    split at h1
    · exact h1
    · next h => exact Decidable.not_not.1 h
  have b : (takeO sh6 2 bs).2 = 0 := by
    split at h2
    · exact h2
    · next h => exact Decidable.not_not.1 h
  unfold takeO at a b
  cases bs with
  | nil => simp at a
  | cons t r =>
    simp only at a b
    by_cases h : t = 1
    · rw [if_pos (by omega)] at b; simp at b
    · rw [if_pos h] at a; simp at a
end Go.Proofs.Ytcdlccnpbhjgkaa.Oo
