/- Kept of the text Pm4: what is reached (wip/tools/prune.py). -/
import Derived.Test.YtkeadpichlgagaaVWLast
import Derived.Below
import Derived.Test.YtkeadpichlgagaaVWWords
import Derived.Test.YtkeadpichlgagaaVWMore
import Derived.Deep.RegionLawGrows
import Derived.BigQuiet
namespace Go.Proofs.Ytkeadpichlgagaa.Rg
open Go Go.RowKit Go.Proofs.YtkeadpichlgagaaW.PrintLast
set_option linter.unusedVariables false
set_option linter.unusedSimpArgs false
abbrev Ent := Nat × Tmp × Bool × List (Nat × Tmp)
def actOf (a : Act) (vals : Nat → Value) (ps : List (Nat × Tmp)) : Act := putAll a (ps.map fun p => (p.2, vals p.1))
theorem putAll_append (a : Act) (x y : List (Tmp × Value)) : putAll a (x ++ y) = putAll (putAll a x) y := by
  induction x generalizing a with
  | nil => rfl
  | cons p x ih => exact ih _
theorem putAll_perm {x y : List (Tmp × Value)} (h : x.Perm y) : (x.map (·.1)).Nodup → ∀ a, putAll a x = putAll a y := by
  induction h with
  | nil => intro _ a; rfl
  | cons p _ ih => intro hn a; exact ih (List.nodup_cons.1 hn).2 _
  | swap p q l =>
    intro hn a
    have hne : q.1 ≠ p.1 := by
      have := (List.nodup_cons.1 hn).1
      simp at this
      exact this.1
    show putAll ((a.put (some q.1) q.2).put (some p.1) p.2) l = putAll ((a.put (some p.1) p.2).put (some q.1) q.2) l
    rw [Act.put_comm a q.2 p.2 (fun d hd => by cases hd; intro he; exact hne (Option.some.inj he).symm)]
  | trans h1 h2 ih1 ih2 => intro hn a; rw [ih1 hn a, ih2 ((h1.map (·.1)).nodup_iff.1 hn) a]
theorem putAll_size (a : Act) (x : List (Tmp × Value)) : (putAll a x).tmps.size = a.tmps.size := by
  induction x generalizing a with
  | nil => rfl
  | cons p x ih => rw [putAll, ih]; simp [Act.put]
theorem putAll_same {ops : Array Oper} (o : Oper) (hs : ∀ cs b, o.op ≠ .select cs b) (x : List (Tmp × Value)) (h : ∀ p ∈ x, p.1 ∉ o.looksAt ops) (a : Act) :
    execOp (putAll a x).eval o = execOp a.eval o ∧ Region.wanted o (yielded ops (putAll a x).tmps) = Region.wanted o (yielded ops a.tmps) := by
  induction x generalizing a with
  | nil => exact ⟨rfl, rfl⟩
  | cons p x ih =>
    obtain ⟨h1, h2⟩ := ih (fun q hq => h q (List.mem_cons_of_mem _ hq)) (a.put (some p.1) p.2)
    have hp : ∀ d, some p.1 = some d → d ∉ o.looksAt ops := fun d hd => by cases hd; exact h p List.mem_cons_self
    exact ⟨h1.trans (execOp_put o hs a _ _ hp), h2.trans (wanted_put o a _ _ hp)⟩
theorem put_back {a c : Act} {t : Tmp} {v v' : Value} (h : c.put (some t) v = c.put (some t) v') (hs : c.tmps.size = a.tmps.size) : a.put (some t) v = a.put (some t) v' := by
  by_cases ht : t < c.tmps.size
  · have := congrArg (fun x : Act => x.tmps[t]?) h
    simp [Act.put, ht] at this
    rw [this]
  · rw [hs] at ht
    simp [Act.put, Array.setIfInBounds, ht]
theorem wp_other {P : Program} {o : Oper} {a c : Act} {W : World} {t : Tmp} {Q : Exit → Act → World → Prop} {Φ : Value → World → Prop} {K' : Act → World → Prop} (hd : o.dst = some t) (hs : c.tmps.size = a.tmps.size)
    (he : execOp a.eval o = execOp c.eval o) (h : Oper.wp P o c W (fun c' W' => ∃ v, c' = c.put (some t) v ∧ Φ v W') (fun _ _ _ => False))
    (hK : ∀ v W', Φ v W' → K' (a.put (some t) v) W') : Oper.wp P o a W K' Q := by
  have step : ∀ v W', (∃ v', c.put o.dst v = c.put (some t) v' ∧ Φ v' W') → K' (a.put o.dst v) W' := fun v W' ⟨v', e, hv⟩ => by
    rw [hd] at e ⊢
    rw [put_back e hs]
    exact hK v' W' hv
  unfold Oper.wp at *
  rw [he]
  generalize (execOp c.eval o).run P W = r at *
  cases r with
  | ok n w' =>
    cases n <;> simp only [Oper.upon] at h ⊢
    case value v => exact step v w' h
    case skip => exact step _ w' h
    case defer d =>
      obtain ⟨v', e, _⟩ := h
      have := congrArg (fun x : Act => x.defers.length) e
      rw [hd] at this
      simp [Act.put] at this
    case enter f args =>
      refine Calls.mono h (fun e w'' hh => ?_)
      cases e with
      | returned v => exact step v w'' hh
      | panicked c => exact hh.elim
      | outgrown => obtain ⟨_, _, h⟩ := hh; exact h.elim
    case row row args => exact Rows.mono h fun v w'' hh => step v w'' hh
  | halt x w' =>
    cases x <;> simp only [Oper.upon] at h ⊢
section
variable {P : Program} {ops : Array Oper} {Q : Exit → Act → World → Prop} {md : Region.Mode} {S : World → Prop} {ds : List Nat}
def rgB (md : Region.Mode) (ops : Array Oper) (l l' : Array Bool) (R : List Ent) : Bool :=
  Region.noSelect ops && Region.closedB md ops l &&
  R.all (fun p => !l.getD p.1 true && ((ops[p.1]?).map (·.dst) == some (some p.2.1))) &&
  decide ((R.map (·.1)).Nodup) && decide ((R.map (·.2.1)).Nodup) &&
  R.all (fun p => decide ((p.2.2.2.map (·.1)).Nodup) && p.2.2.2.all fun q => (R.any fun r => r.1 == q.1 && r.2.1 == q.2) && Region.reachB md ops q.1 ops.size p.1) &&
  R.all (fun p => R.all fun r => (p.2.2.2.any fun q => q.1 == r.1) || ((ops[p.1]?).map fun o => !(o.looksAt ops).contains r.2.1).getD false) &&
  ((List.range ops.size).all fun j => l.getD j true || (R.any (·.1 == j) || R.all fun p => p.2.2.1 || Region.reachB md ops p.1 ops.size j)) &&
  ((List.range ops.size).all fun j => ((ops[j]?).map fun o => o.after.all fun e => !Region.binds md e || decide (e.on < j)).getD true) &&
  (R.foldl (fun l p => l.setIfInBounds p.1 true) l == l') && (l.size == ops.size) &&
  R.all (fun p => !p.2.2.1 || Region.free md ops (p.2.2.2.foldl (fun l q => l.setIfInBounds q.1 true) l) p.1) &&
  R.all (fun p => ((ops[p.1]?).map fun o => o.after.all fun e => !Region.binds md e || l.getD e.on false || R.any (·.1 == e.on)).getD false)
def Step1 (P : Program) (ops : Array Oper) (a : Act) (w : World) (Φ : Nat → Value → World → Prop) (p : Ent) : Prop :=
  ∀ o : Oper, ops[p.1]? = some o → ∀ (vals : Nat → Value) (W : World), Below w.heap.size w W → (∀ q ∈ p.2.2.2, Φ q.1 (vals q.1) W) →
    if p.2.2.1 = true then ∃ v, Yields P ops o v (actOf a vals p.2.2.2) ∧ Φ p.1 v W else
    ∀ K : Act → World → Prop, Shut (∀ v W', Below W.heap.size W W' → Φ p.1 v W' → K ((actOf a vals p.2.2.2).put (some p.2.1) v) W') →
      if Region.wanted o (yielded ops (actOf a vals p.2.2.2).tmps) = true then Oper.wp P o (actOf a vals p.2.2.2) W K (fun _ _ _ => False) else K ((actOf a vals p.2.2.2).put (some p.2.1) undef) W
def Steps (P : Program) (ops : Array Oper) (a : Act) (w : World) (Φ : Nat → Value → World → Prop) (R : List Ent) : Prop := ∀ p ∈ R, Step1 P ops a w Φ p
theorem Steps.nil {a : Act} {w : World} {Φ : Nat → Value → World → Prop} : Steps P ops a w Φ [] := fun p h => by cases h
theorem Steps.cons {a : Act} {w : World} {Φ : Nat → Value → World → Prop} {i : Nat} {t : Tmp} {ns : List (Nat × Tmp)} {r : List Ent} {o : Oper} (ho : ops[i]? = some o)
    (h : ∀ (vals : Nat → Value) (W : World), Below w.heap.size w W → (∀ q ∈ ns, Φ q.1 (vals q.1) W) → ∀ K : Act → World → Prop,
      Shut (∀ v W', Below W.heap.size W W' → Φ i v W' → K ((actOf a vals ns).put (some t) v) W') →
      if Region.wanted o (yielded ops (actOf a vals ns).tmps) = true then Oper.wp P o (actOf a vals ns) W K (fun _ _ _ => False) else K ((actOf a vals ns).put (some t) undef) W)
    (hr : Steps P ops a w Φ r) : Steps P ops a w Φ ((i, t, false, ns) :: r) := fun p hp => by
  rcases List.mem_cons.1 hp with rfl | hp
  · intro o' ho' vals W hW hΦ
    rw [if_neg (show ¬ (false = true) by decide)]
    have : o' = o := Option.some.inj (ho'.symm.trans ho)
    subst this
    exact h vals W hW hΦ
  · exact hr p hp
theorem Steps.pure {a : Act} {w : World} {Φ : Nat → Value → World → Prop} {i : Nat} {t : Tmp} {ns : List (Nat × Tmp)} {r : List Ent} {o : Oper} (ho : ops[i]? = some o)
    (h : ∀ (vals : Nat → Value) (W : World), Below w.heap.size w W → (∀ q ∈ ns, Φ q.1 (vals q.1) W) → ∃ v, Yields P ops o v (actOf a vals ns) ∧ Φ i v W)
    (hr : Steps P ops a w Φ r) : Steps P ops a w Φ ((i, t, true, ns) :: r) := fun p hp => by
  rcases List.mem_cons.1 hp with rfl | hp
  · intro o' ho' vals W hW hΦ
    rw [if_pos rfl]
    have : o' = o := Option.some.inj (ho'.symm.trans ho)
    subst this
    exact h vals W hW hΦ
  · exact hr p hp
theorem nodup_of_map {α β : Type} (f : α → β) : ∀ {l : List α}, (l.map f).Nodup → l.Nodup
  | [], _ => List.nodup_nil
  | x :: l, h => by
    have h' := List.nodup_cons.1 h
    exact List.nodup_cons.2 ⟨fun hx => h'.1 (List.mem_map.2 ⟨x, hx, rfl⟩), nodup_of_map f h'.2⟩
theorem inj_of_nodup {α β : Type} (f : α → β) : ∀ {l : List α}, (l.map f).Nodup → ∀ {x y : α}, x ∈ l → y ∈ l → f x = f y → x = y
  | [], _, _, _, h, _, _ => by cases h
  | z :: l, h, x, y, hx, hy, e => by
    have h' := List.nodup_cons.1 h
    rcases List.mem_cons.1 hx with e1 | hx
    · rcases List.mem_cons.1 hy with e2 | hy
      · rw [e1, e2]
      · exact absurd (List.mem_map.2 ⟨y, hy, by rw [← e, e1]⟩) h'.1
    · rcases List.mem_cons.1 hy with e2 | hy
      · exact absurd (List.mem_map.2 ⟨x, hx, by rw [e, e2]⟩) h'.1
      · exact inj_of_nodup f h'.2 hx hy e
theorem dec_cons (p j : Nat) (l : List Nat) (h : ¬ p = j) (b : Bool) : (decide (j ∈ l) || b) = (decide (j ∈ p :: l) || b) := by
  have : (j ∈ p :: l) = (j ∈ l) := by rw [List.mem_cons]; simp [Ne.symm h]
  simp only [this]
theorem dec_snoc (p j : Nat) (l : List Nat) (h : ¬ p = j) (b : Bool) : (decide (j ∈ l) || b) = (decide (j ∈ l ++ [p]) || b) := by
  have : (j ∈ l ++ [p]) = (j ∈ l) := by rw [List.mem_append]; simp [Ne.symm h]
  simp only [this]
theorem perm_of_sub {α : Type} [DecidableEq α] : ∀ {D R : List α}, D.Nodup → (∀ x ∈ D, x ∈ R) → D.length = R.length → D.Perm R
  | [], R, _, _, hl => by
    have : R = [] := List.eq_nil_of_length_eq_zero (by simpa using hl.symm)
    subst this
    exact .nil
  | x :: D, R, hn, hs, hl => by
    have hx := hs x List.mem_cons_self
    have h1 := List.perm_cons_erase hx
    have hn' := List.nodup_cons.1 hn
    have h2 : D.Perm (R.erase x) := perm_of_sub hn'.2 (fun y hy => by
      have hy' := hs y (List.mem_cons_of_mem _ hy)
      rcases List.mem_cons.1 (h1.mem_iff.1 hy') with rfl | h
      · exact absurd hy hn'.1
      · exact h) (by rw [List.length_erase_of_mem hx]; simp at hl; omega)
    exact (h2.cons x).trans h1.symm
theorem perm_split {α : Type} [DecidableEq α] {D ns : List α} (hD : D.Nodup) (hn : ns.Nodup) (hs : ∀ x ∈ ns, x ∈ D) : ∃ os, D.Perm (ns ++ os) ∧ ∀ x ∈ os, x ∈ D ∧ x ∉ ns := by
  refine ⟨D.filter (fun x => decide (x ∉ ns)), ?_, fun x hx => by simpa using hx⟩
  have h1 : (D.filter (fun x => decide (x ∈ ns))).Perm ns := by
    refine perm_of_sub (hD.filter _) (fun x hx => by simp at hx; exact hx.2) ?_
    have h2 := (perm_of_sub (D := ns) (R := D.filter (fun x => decide (x ∈ ns))) hn (fun x hx => by simp; exact ⟨hs x hx, hx⟩))
    have a1 : ns.length ≤ (D.filter (fun x => decide (x ∈ ns))).length := by
      have : ∀ (A B : List α), A.Nodup → (∀ x ∈ A, x ∈ B) → A.length ≤ B.length := by
        intro A
        induction A with
        | nil => intro B _ _; simp
        | cons y A ih =>
          intro B hA hAB
          have hy := hAB y List.mem_cons_self
          have hA' := List.nodup_cons.1 hA
          have := ih (B.erase y) hA'.2 (fun z hz => by
            have hz' := hAB z (List.mem_cons_of_mem _ hz)
            rcases List.mem_cons.1 ((List.perm_cons_erase hy).mem_iff.1 hz') with rfl | h
            · exact absurd hz hA'.1
            · exact h)
          rw [List.length_erase_of_mem hy] at this
          have : 0 < B.length := List.length_pos_of_mem hy
          simp; omega
      exact this _ _ hn (fun x hx => by simp; exact ⟨hs x hx, hx⟩)
    have a2 : (D.filter (fun x => decide (x ∈ ns))).length ≤ ns.length := by
      have : ∀ (A B : List α), A.Nodup → (∀ x ∈ A, x ∈ B) → A.length ≤ B.length := by
        intro A
        induction A with
        | nil => intro B _ _; simp
        | cons y A ih =>
          intro B hA hAB
          have hy := hAB y List.mem_cons_self
          have hA' := List.nodup_cons.1 hA
          have := ih (B.erase y) hA'.2 (fun z hz => by
            have hz' := hAB z (List.mem_cons_of_mem _ hz)
            rcases List.mem_cons.1 ((List.perm_cons_erase hy).mem_iff.1 hz') with rfl | h
            · exact absurd hz hA'.1
            · exact h)
          rw [List.length_erase_of_mem hy] at this
          have : 0 < B.length := List.length_pos_of_mem hy
          simp; omega
      exact this _ _ (hD.filter _) (fun x hx => by simp at hx; exact hx.2)
    omega
  refine List.Perm.trans ?_ (h1.append_right _)
  have := List.filter_append_perm (fun x => decide (x ∈ ns)) D
  refine this.symm.trans ?_
  refine List.Perm.append_left _ ?_
  rw [show (D.filter fun x => !decide (x ∈ ns)) = D.filter (fun x => decide (x ∉ ns)) from by congr 1; funext x; simp]
theorem norm_step {o : Oper} {a a' : Act} {t : Option Tmp} {W : World} {K : Act → World → Prop} (ha : a = a')
    (h : if Region.wanted o (yielded ops a'.tmps) = true then Oper.wp P o a' W K (fun _ _ _ => False) else K (a'.put t undef) W) : if Region.wanted o (yielded ops a.tmps) = true then Oper.wp P o a W K (fun _ _ _ => False) else K (a.put t undef) W := by
  subst ha
  exact h
theorem getD_default {l : Array Bool} {j : Nat} (h : j < l.size) (d d' : Bool) : l.getD j d = l.getD j d' := by simp [h]
theorem fold_off {j : Nat} {b : Bool} : ∀ (ns : List (Nat × Tmp)) (l : Array Bool), (∀ q ∈ ns, q.1 ≠ j) → (ns.foldl (fun l q => l.setIfInBounds q.1 true) l).getD j b = l.getD j b
  | [], _, _ => rfl
  | q :: ns, l, h => by
    rw [List.foldl_cons, fold_off ns _ (fun r hr => h r (List.mem_cons_of_mem _ hr)), getD_set_ne b (h q List.mem_cons_self)]
theorem rg_ {R : List Ent} {n : Nat} (fuel' : Nat) {l : Array Bool} (l' : Array Bool) {a : Act} {w : World} (Φ : Nat → Value → World → Prop)
    (hc : rgB md ops l l' R = true) (hf : R.length + fuel' = n)
    (hst : ∀ i v w1 w2, Φ i v w1 → Below w1.heap.size w1 w2 → Φ i v w2)
    (hS : ∀ w1, Below w.heap.size w w1 → S w1)
    (hstep : Steps P ops a w Φ R)
    (hQ : ∀ c a (t : Tmp) v w, Q (.panic c) (a.put (some t) v) w → Q (.panic c) a w)
    (hcont : ∀ (vals : Nat → Value) W, Below w.heap.size w W → (∀ p ∈ R, Φ p.1 (vals p.1) W) → S W → wpAnyLast P md ops Q S ds fuel' l' (actOf a vals (R.map fun p => (p.1, p.2.1))) W) :
    wpAnyLast P md ops Q S ds n l a w := by
  subst hf
  simp only [rgB, Bool.and_eq_true, beq_iff_eq, decide_eq_true_eq] at hc
  obtain ⟨⟨⟨⟨⟨⟨⟨⟨⟨⟨⟨⟨c1, c2⟩, c3⟩, c4⟩, c5⟩, c6⟩, c7⟩, c8⟩, c9⟩, c10⟩, c11⟩, c12⟩, c13⟩ := hc
  have hsel := Region.noSelect_spec c1
  have hcl := Region.closedB_spec c2
  have hun : ∀ p ∈ R, l.getD p.1 true = false ∧ (ops[p.1]?).map (·.dst) = some (some p.2.1) := fun p hp => by
    have := List.all_eq_true.1 c3 p hp
    simpa using this
  have hlt : ∀ p ∈ R, p.1 < l.size := fun p hp => by
    rcases Nat.lt_or_ge p.1 l.size with h | h
    · exact h
    · have := (hun p hp).1
      simp [Array.getElem?_eq_none h] at this
  -- the general state
  have main : ∀ (m : Nat) (D : List (Nat × Tmp)) (lD : Array Bool) (vals : Nat → Value) (W : World), D.length + m = R.length → (D.map (·.1)).Nodup → (∀ x ∈ D, ∃ p ∈ R, x = (p.1, p.2.1)) →
      lD.size = l.size → (∀ j, j < l.size → lD.getD j true = (decide (j ∈ D.map (·.1)) || l.getD j true)) → ListedClosed md ops lD → Below w.heap.size w W → (∀ x ∈ D, Φ x.1 (vals x.1) W) →
      wpAnyLast P md ops Q S ds (m + fuel') lD (actOf a vals D) W := by
    intro m
    induction m with
    | zero =>
      intro D lD vals W hm hn hD hls hl hcD hb hΦ
      have hR' : D.Perm (R.map fun p => (p.1, p.2.1)) := by
        refine perm_of_sub ?_ (fun x hx => by obtain ⟨p, hp, rfl⟩ := hD x hx; exact List.mem_map.2 ⟨p, hp, rfl⟩) (by simp; omega)
        exact nodup_of_map _ hn
      have e1 : actOf a vals D = actOf a vals (R.map fun p => (p.1, p.2.1)) := by
        unfold actOf
        refine putAll_perm (hR'.map _) ?_ a
        rw [List.map_map]
        have : (D.map (·.2)).Perm (R.map (·.2.1)) := by
          have := hR'.map (·.2)
          rwa [List.map_map] at this
        exact this.nodup_iff.2 c5
      have e2 : lD = l' := by
        have hfold : ∀ (R : List Ent) (l : Array Bool), (R.foldl (fun l p => l.setIfInBounds p.1 true) l).size = l.size ∧ ∀ j, j < l.size → (R.foldl (fun l p => l.setIfInBounds p.1 true) l).getD j true = (decide (j ∈ R.map (·.1)) || l.getD j true) := by
          intro R
          induction R with
          | nil => intro l; exact ⟨rfl, fun j _ => by simp⟩
          | cons p R ih =>
            intro l
            obtain ⟨i1, i2⟩ := ih (l.setIfInBounds p.1 true)
            refine ⟨by rw [List.foldl_cons, i1]; simp, fun j hj => ?_⟩
            rw [List.foldl_cons, i2 j (by simpa using hj)]
            by_cases hpj : p.1 = j
            · subst hpj
              simp [hj]
            · rw [getD_set_ne true hpj]
              exact dec_cons _ _ _ hpj _
        obtain ⟨f1, f2⟩ := hfold R l
        rw [c10] at f1 f2
        refine Array.ext (by rw [hls, f1]) (fun j h1 h2 => ?_)
        have g1 := hl j (by omega)
        have g2 := f2 j (by omega)
        have hmem : j ∈ D.map (·.1) ↔ j ∈ R.map (·.1) := by
          have := (hR'.map (·.1)).mem_iff (a := j)
          rwa [List.map_map] at this
        rw [show decide (j ∈ D.map (·.1)) = decide (j ∈ R.map (·.1)) from by simp only [hmem]] at g1
        rw [← g2] at g1
        simpa [h1, h2] using g1
      rw [e1, e2, Nat.zero_add]
      refine hcont vals W hb (fun p hp => ?_) (hS W hb)
      have : (p.1, p.2.1) ∈ D := hR'.mem_iff.2 (List.mem_map.2 ⟨p, hp, rfl⟩)
      exact hΦ _ this
    | succ m ih =>
      intro D lD vals W hm hn hD hls hl hcD hb hΦ
      -- one that has not come up
      obtain ⟨p0, hp0, hp0D⟩ : ∃ p ∈ R, p.1 ∉ D.map (·.1) := by
        false_or_by_contra
        rename_i hno
        have hall : ∀ p ∈ R, p.1 ∈ D.map (·.1) := fun p hp => by
          false_or_by_contra
          rename_i h
          exact hno ⟨p, hp, h⟩
        have : ∀ (A B : List Nat), A.Nodup → (∀ x ∈ A, x ∈ B) → A.length ≤ B.length := by
          intro A
          induction A with
          | nil => intro B _ _; simp
          | cons y A ih =>
            intro B hA hAB
            have hy := hAB y List.mem_cons_self
            have hA' := List.nodup_cons.1 hA
            have := ih (B.erase y) hA'.2 (fun z hz => by
              have hz' := hAB z (List.mem_cons_of_mem _ hz)
              rcases List.mem_cons.1 ((List.perm_cons_erase hy).mem_iff.1 hz') with rfl | h
              · exact absurd hz hA'.1
              · exact h)
            rw [List.length_erase_of_mem hy] at this
            have : 0 < B.length := List.length_pos_of_mem hy
            simp; omega
        have := this (R.map (·.1)) (D.map (·.1)) c4 (fun x hx => by obtain ⟨p, hp, rfl⟩ := List.mem_map.1 hx; exact hall p hp)
        simp at this
        omega
      have hunD : lD.getD p0.1 true = false := by
        rw [hl _ (hlt p0 hp0), (hun p0 hp0).1]
        simp only [hp0D, decide_false, Bool.or_false]
      have hfuel : m + 1 + fuel' = (m + fuel') + 1 := by omega
      have entry : ∀ p ∈ R, p.1 ∈ Region.ready md ops lD → ∃ o, ops[p.1]? = some o ∧ o.dst = some p.2.1 ∧ (∀ q ∈ p.2.2.2, q ∈ D) ∧ execOp (actOf a vals D).eval o = execOp (actOf a vals p.2.2.2).eval o ∧
          Region.wanted o (yielded ops (actOf a vals D).tmps) = Region.wanted o (yielded ops (actOf a vals p.2.2.2).tmps) ∧ (actOf a vals p.2.2.2).tmps.size = (actOf a vals D).tmps.size ∧
          ∀ v W', (Below W.heap.size W W' ∧ Φ p.1 v W') → (p.1 ∉ ds → S W → S W') ∧ wpAnyLast P md ops Q S ds (m + fuel') (lD.setIfInBounds p.1 true) ((actOf a vals D).put (some p.2.1) v) W' := by
        intro p hp hi
        obtain ⟨hiun, o, ho, hall⟩ := mem_ready.1 hi
        have hisz : p.1 < ops.size := (Array.getElem?_eq_some_iff.1 ho).1
        have hisl : p.1 < l.size := by rw [c11]; exact hisz
        have hi2 := hl p.1 hisl
        rw [hiun] at hi2
        obtain ⟨hiD, hil⟩ : p.1 ∉ D.map (·.1) ∧ l.getD p.1 true = false := by
          have := hi2.symm
          simp only [Bool.or_eq_false_iff, decide_eq_false_iff_not] at this
          exact this
        obtain ⟨i, t, pu, ns⟩ := p
        simp only at hi ho hiD hil hisz hisl hiun
        have hdst : o.dst = some t := by
          have := (hun _ hp).2
          rw [ho] at this
          simpa using this
        have h6 := List.all_eq_true.1 c6 _ hp
        simp only [Bool.and_eq_true, decide_eq_true_eq] at h6
        obtain ⟨hns, h6⟩ := h6
        have hsub : ∀ q ∈ ns, q ∈ D := fun q hq => by
          have h1 := List.all_eq_true.1 h6 q hq
          simp only [Bool.and_eq_true] at h1
          obtain ⟨r, hr, hrq⟩ := List.any_eq_true.1 h1.1
          simp only [Bool.and_eq_true, beq_iff_eq] at hrq
          have hqlt : q.1 < l.size := by rw [← hrq.1]; exact hlt r hr
          have hqD : q.1 ∈ D.map (·.1) := by
            false_or_by_contra
            rename_i hno
            have hqu : lD.getD q.1 true = false := by
              rw [hl _ hqlt, ← hrq.1, (hun r hr).1]
              rw [← hrq.1] at hno
              simp only [hno, decide_false, Bool.or_false]
            exact Region.reach_not_ready hcD h1.2 hqu hi
          obtain ⟨x, hx, hxq⟩ := List.mem_map.1 hqD
          obtain ⟨p, hp, rfl⟩ := hD x hx
          simp only at hxq
          have : p = r := by
            have hpr : p.1 = r.1 := by rw [hxq, hrq.1]
            exact inj_of_nodup (·.1) c4 hp hr hpr
          subst this
          have : q = (p.1, p.2.1) := by
            obtain ⟨q1, q2⟩ := q
            simp only at hrq
            rw [hrq.1, hrq.2]
          rw [this]
          exact hx
        have hDn : D.Nodup := nodup_of_map _ hn
        obtain ⟨os, hperm, hos⟩ := perm_split hDn (nodup_of_map _ hns) hsub
        have e1 : actOf a vals D = putAll (actOf a vals ns) (os.map fun p => (p.2, vals p.1)) := by
          unfold actOf
          rw [← putAll_append, ← List.map_append]
          refine putAll_perm (hperm.map _) ?_ a
          rw [List.map_map]
          have hslots : (D.map (·.2)).Nodup := by
            have h1 : ∀ (D : List (Nat × Tmp)), (D.map (·.1)).Nodup → (∀ x ∈ D, ∃ p ∈ R, x = (p.1, p.2.1)) → (D.map (·.2)).Nodup := by
              intro D
              induction D with
              | nil => intro _ _; exact List.nodup_nil
              | cons x D ihD =>
                intro hn hD
                have hn' := List.nodup_cons.1 hn
                refine List.nodup_cons.2 ⟨fun hx => ?_, ihD hn'.2 (fun y hy => hD y (List.mem_cons_of_mem _ hy))⟩
                obtain ⟨y, hy, hyx⟩ := List.mem_map.1 hx
                obtain ⟨p, hp, rfl⟩ := hD x List.mem_cons_self
                obtain ⟨r, hr, rfl⟩ := hD y (List.mem_cons_of_mem _ hy)
                have := inj_of_nodup (·.2.1) c5 hp hr hyx.symm
                subst this
                exact hn'.1 (List.mem_map.2 ⟨_, hy, rfl⟩)
            exact h1 D hn hD
          exact hslots
        have hoff : ∀ x ∈ os.map (fun p => (p.2, vals p.1)), x.1 ∉ o.looksAt ops := by
          intro x hx
          obtain ⟨y, hy, rfl⟩ := List.mem_map.1 hx
          obtain ⟨hyD, hyn⟩ := hos y hy
          obtain ⟨r, hr, rfl⟩ := hD y hyD
          have h7 := List.all_eq_true.1 (List.all_eq_true.1 c7 _ hp) r hr
          simp only at h7
          rcases Bool.or_eq_true _ _ ▸ h7 with h | h
          · obtain ⟨q, hq, e⟩ := List.any_eq_true.1 h
            simp only [beq_iff_eq] at e
            have hqD := hsub q hq
            have : q = (r.1, r.2.1) := by
              exact inj_of_nodup (·.1) hn hqD hyD e
            exact absurd (this ▸ hq) hyn
          · rw [ho] at h
            simpa using h
        obtain ⟨x1, x2⟩ := putAll_same (ops := ops) o (fun cs b => hsel i o cs b ho) _ hoff (actOf a vals ns)
        rw [← e1] at x1 x2
        have hsz : (actOf a vals ns).tmps.size = (actOf a vals D).tmps.size := by unfold actOf; rw [putAll_size, putAll_size]
        have hcont' : ∀ v W', (Below W.heap.size W W' ∧ Φ i v W') → (i ∉ ds → S W → S W') ∧ wpAnyLast P md ops Q S ds (m + fuel') (lD.setIfInBounds i true) ((actOf a vals D).put (some t) v) W' := by
          rintro v W' ⟨h1, h2⟩
          have hb' : Below w.heap.size w W' := hb.trans (h1.mono hb.size)
          refine ⟨fun _ _ => hS W' hb', ?_⟩
          have e3 : (actOf a vals D).put (some t) v = actOf a (fun j => if j = i then v else vals j) (D ++ [(i, t)]) := by
            unfold actOf
            rw [List.map_append, putAll_append]
            have : D.map (fun p => (p.2, if p.1 = i then v else vals p.1)) = D.map (fun p => (p.2, vals p.1)) := List.map_congr_left fun q hq => by
              have : q.1 ≠ i := fun e => hiD (List.mem_map.2 ⟨q, hq, e⟩)
              simp [this]
            rw [this]
            simp [putAll]
          rw [e3]
          refine ih (D ++ [(i, t)]) (lD.setIfInBounds i true) _ W' (by simp; omega) ?_ ?_ (by simpa using hls) (fun j hj => ?_) (hcD.set hi) hb' (fun x hx => ?_)
          · rw [List.map_append, List.nodup_append]
            refine ⟨hn, by simp, fun x hx y hy => ?_⟩
            simp at hy
            subst hy
            rintro rfl
            exact hiD hx
          · intro x hx
            rcases List.mem_append.1 hx with hx | hx
            · exact hD x hx
            · simp at hx; subst hx; exact ⟨_, hp, rfl⟩
          · by_cases hij : i = j
            · subst hij
              simp [hls, hj]
            · rw [getD_set_ne true hij, hl j hj, List.map_append]
              exact dec_snoc _ _ _ hij _
          · rcases List.mem_append.1 hx with hx | hx
            · have : x.1 ≠ i := fun e => hiD (List.mem_map.2 ⟨x, hx, e⟩)
              simp only [this, if_false]
              exact hst _ _ _ _ (hΦ x hx) h1
            · simp at hx
              subst hx
              simp only [if_true]
              exact h2
        exact ⟨o, ho, hdst, hsub, x1, x2, hsz, hcont'⟩
      rw [hfuel]
      by_cases hpu : ∃ p ∈ R, p.2.2.1 = true ∧ p.1 ∈ Region.ready md ops lD
      · obtain ⟨p, hp, hpp, hpr⟩ := hpu
        obtain ⟨o, ho, hdst, hsub, x1, x2, hsz, hco⟩ := entry p hp hpr
        have hst1 := hstep p hp o ho vals W hb (fun q hq => hΦ q (hsub q hq))
        rw [if_pos hpp] at hst1
        obtain ⟨v, hy, hv⟩ := hst1
        have hfree : Region.free md ops (p.2.2.2.foldl (fun l q => l.setIfInBounds q.1 true) l) p.1 = true := by
          have := List.all_eq_true.1 c12 p hp
          rw [hpp] at this
          simpa using this
        refine wpAnyLast_any (v := v) ho hsel (fun c a w => by rw [hdst]; exact hQ c a _ _ w) (m + fuel') lD _ W (fun j oj hj hne hju hno => ?_) hpr (hy.of_same x1 x2) ?_
        · refine Region.free_spec ho hfree j oj hj hne ?_ hno
          have hjl : j < l.size := by rw [c11]; exact (Array.getElem?_eq_some_iff.1 hj).1
          have := hl j hjl
          rw [hju] at this
          have := this.symm
          simp only [Bool.or_eq_false_iff] at this
          rw [fold_off]
          · exact this.2
          · intro q hq e
            have h1 : j ∈ D.map (·.1) := List.mem_map.2 ⟨q, hsub q hq, e⟩
            exact absurd (of_decide_eq_false this.1) (fun h => h h1)
        · rw [hdst]
          exact (hco v W ⟨Below.refl _ W, hv⟩).2
      -- one that makes memory has not come up
      obtain ⟨p0, hp0, hp0D, hp0n⟩ : ∃ p ∈ R, p.1 ∉ D.map (·.1) ∧ p.2.2.1 = false := by
        false_or_by_contra
        rename_i hno
        have hno' : ∀ p ∈ R, p.1 ∉ D.map (·.1) → p.2.2.1 = true := fun p hp hd => by
          cases h : p.2.2.1
          · exact absurd ⟨p, hp, hd, h⟩ hno
          · rfl
        have low : ∀ k : Nat, ∀ p ∈ R, p.1 = k → p.1 ∉ D.map (·.1) → False := by
          intro k
          induction k using Nat.strongRecOn with
          | _ k ihk =>
            intro p hp hpk hpd
            have hpsz : p.1 < ops.size := by rw [← c11]; exact hlt p hp
            have ho : ops[p.1]? = some ops[p.1] := Array.getElem?_eq_getElem hpsz
            have hpu2 : lD.getD p.1 true = false := by
              rw [hl _ (hlt p hp), (hun p hp).1]
              simp only [hpd, decide_false, Bool.or_false]
            have hnr : ¬ ∀ e ∈ ops[p.1].after, Region.binds md e = true → lD.getD e.on false = true := fun hall => hpu ⟨p, hp, hno' p hp hpd, mem_ready.2 ⟨hpu2, _, ho, hall⟩⟩
            simp only [Classical.not_forall] at hnr
            obtain ⟨e, he, hbd, hne⟩ := hnr
            have h13 := List.all_eq_true.1 c13 p hp
            rw [ho] at h13
            simp only [Option.map_some, Option.getD_some] at h13
            have h13 := Array.all_eq_true_iff_forall_mem.1 h13 e he
            rw [hbd] at h13
            simp only [Bool.not_true, Bool.false_or, Bool.or_eq_true] at h13
            have h9 := List.all_eq_true.1 c9 p.1 (List.mem_range.2 hpsz)
            rw [ho] at h9
            simp only [Option.map_some, Option.getD_some] at h9
            have h9 := Array.all_eq_true_iff_forall_mem.1 h9 e he
            rw [hbd] at h9
            have hon : e.on < p.1 := by simpa using h9
            have honl : e.on < l.size := by have := hlt p hp; omega
            rcases h13 with h | h
            · have h2 := hl e.on honl
              rw [getD_default honl true false, h, Bool.or_true] at h2
              rw [getD_default (by rw [hls]; exact honl) true false] at h2
              exact hne h2
            · obtain ⟨r, hr, hre⟩ := List.any_eq_true.1 h
              have hre' : r.1 = e.on := by simpa using hre
              refine ihk r.1 (by rw [hre']; omega) r hr rfl (fun hrD => hne ?_)
              have h2 := hl e.on honl
              rw [hre'] at hrD
              rw [show decide (e.on ∈ D.map (·.1)) = true from decide_eq_true hrD, Bool.true_or] at h2
              rw [getD_default (by rw [hls]; exact honl) true false] at h2
              exact h2
        exact low p0.1 p0 hp0 rfl hp0D
      have hunD : lD.getD p0.1 true = false := by
        rw [hl _ (hlt p0 hp0), (hun p0 hp0).1]
        simp only [hp0D, decide_false, Bool.or_false]
      refine ⟨fun h0 => ?_, fun i hi => ?_⟩
      · -- something is ready: the least that has not come up
        exfalso
        have key : ∀ j, j < ops.size → lD.getD j true = false → ∃ k, k ∈ Region.ready md ops lD := by
          intro j
          induction j using Nat.strongRecOn with
          | _ j ihj =>
            intro hj hju
            by_cases hrd : j ∈ Region.ready md ops lD
            · exact ⟨j, hrd⟩
            · have ho : ops[j]? = some ops[j] := Array.getElem?_eq_getElem hj
              have hnr : ¬ ∀ e ∈ ops[j].after, Region.binds md e = true → lD.getD e.on false = true := fun hall => hrd (mem_ready.2 ⟨hju, _, ho, hall⟩)
              simp only [Classical.not_forall] at hnr
              obtain ⟨e, he, hbd, hne⟩ := hnr
              have h9 := List.all_eq_true.1 c9 j (List.mem_range.2 hj)
              rw [ho] at h9
              have h9' : ∀ e ∈ ops[j].after, Region.binds md e = true → e.on < j := by
                simp only [Option.map_some, Option.getD_some] at h9
                intro e he hbd
                have := Array.all_eq_true_iff_forall_mem.1 h9 e he
                rw [hbd] at this
                simpa using this
              have hlt' := h9' e he hbd
              have hsz : e.on < lD.size := by rw [hls, c11]; omega
              refine ihj e.on hlt' (by omega) ?_
              rw [getD_default hsz true false]
              simpa using hne
        obtain ⟨k, hk⟩ := key p0.1 (by rw [← c11]; exact hlt p0 hp0) hunD
        rw [h0] at hk
        cases hk
      · have hiun := (mem_ready.1 hi).1
        obtain ⟨p, hp, rfl⟩ : ∃ p ∈ R, p.1 = i := by
          obtain ⟨_, o, ho, _⟩ := mem_ready.1 hi
          have hisz : i < ops.size := (Array.getElem?_eq_some_iff.1 ho).1
          have hisl : i < l.size := by rw [c11]; exact hisz
          have hil : l.getD i true = false := by
            have hi2 := hl i hisl
            rw [hiun] at hi2
            have := hi2.symm
            simp only [Bool.or_eq_false_iff] at this
            exact this.2
          have h8 := List.all_eq_true.1 c8 i (List.mem_range.2 hisz)
          rw [hil, Bool.false_or] at h8
          rcases Bool.or_eq_true _ _ ▸ h8 with h | h
          · obtain ⟨p, hp, e⟩ := List.any_eq_true.1 h
            exact ⟨p, hp, by simpa using e⟩
          · have h3 := List.all_eq_true.1 h p0 hp0
            rw [hp0n, Bool.false_or] at h3
            exact absurd hi (Region.reach_not_ready hcD h3 hunD)
        obtain ⟨o, ho, hdst, hsub, x1, x2, hsz, hco⟩ := entry p hp hi
        have hst1 := hstep p hp o ho vals W hb (fun q hq => hΦ q (hsub q hq))
        have hnp : ¬ p.2.2.1 = true := fun h => hpu ⟨p, hp, h, hi⟩
        rw [if_neg hnp] at hst1
        have hst1 := hst1 (fun c' W' => ∃ v, c' = (actOf a vals p.2.2.2).put (some p.2.1) v ∧ (Below W.heap.size W W' ∧ Φ p.1 v W')) (show _ from fun v W' h1 h2 => ⟨v, rfl, h1, h2⟩)
        unfold wpOp
        simp only [ho]
        rw [x2]
        split
        · rename_i hw
          simp only [hw, if_true] at hst1
          exact .inl (wp_other hdst hsz x1 hst1 hco)
        · rename_i hw
          simp only [hw] at hst1
          obtain ⟨v, e, hv⟩ := hst1
          have := put_back e hsz
          rw [hdst, this]
          exact hco v W hv
  have h0 := main R.length [] l (fun _ => undef) w (by simp) List.nodup_nil (fun x hx => by cases hx) rfl (fun j _ => by simp) hcl (Below.refl _ w) (fun x hx => by cases hx)
  exact h0
end
end Go.Proofs.Ytkeadpichlgagaa.Rg
namespace Go.Proofs.Ytkeadpichlgagaa.Rg
open Go Go.RowKit Go.Proofs.YtkeadpichlgagaaW.PrintWords Go.Proofs.YtkeadpichlgagaaW.PrintLast
set_option linter.unusedVariables false
set_option linter.unusedSimpArgs false
section
variable {P : Program} {ops : Array Oper} {o : Oper} {a : Act} {Q : Exit → Act → World → Prop} {K : Act → World → Prop}
def Empty (e : TypeId) (base : Nat) (v : Value) (W : World) : Prop := ∃ g cur, v = .slice (some ⟨g, 0, none⟩) 0 0 ∧ base ≤ g ∧ W.heap[g]? = some (.cells cur e (0, 0)) ∧ cur.size = 0
theorem Empty.below {e : TypeId} {base : Nat} {v : Value} {W W' : World} (h : Empty e base v W) (hb : Below W.heap.size W W') : Empty e base v W' := by
  obtain ⟨g, cur, h1, h2, h3, h4⟩ := h
  exact ⟨g, cur, h1, h2, blk_below h3 hb, h4⟩
theorem fresh_append {α : Type} {enc : α → Value} {h1 : ∀ x : α, (enc x).oneCell' = true} {W : World} (base : Nat) (hw : Region.wanted o (yielded ops a.tmps) = true) (s x : Operand) (t e : TypeId) (z : Value) (bytes : Nat)
    (ho : o.op = .call { callee := .builtin .append, args := #[s, x], argTypes := #[t, t] })
    (hg : o.guard = none) (ht : P.underlying t = some (.slice e)) (hinfo : (P.info? e).map (fun i => (i.zero, i.size, i.bytes)) = some (some z, 1, bytes)) (hz : z.cells.size = 1) (hb0 : 0 < bytes)
    (v : Value) (ys : List α) (A : Option Addr) (m c : Nat) (hs : a.eval s = v) (hx : a.eval x = .slice A m c) (HE : Empty e base v W) (HR : (Kd.scalar enc h1).C W A m ys) (hbase : base ≤ W.heap.size) (hl : m * bytes ≤ 140737488355328)
    (h : ∀ v1 w1, (Kd.scalar enc h1).R e w1 base (fun _ => True) v1 ys → Below W.heap.size W w1 → K (a.put o.dst v1) w1) :
    if Region.wanted o (yielded ops a.tmps) = true then Oper.wp P o a W K Q else K (a.put o.dst undef) W := by
  obtain ⟨i0, hi, hzz⟩ := Option.map_eq_some_iff.1 hinfo
  simp only [Prod.mk.injEq] at hzz
  obtain ⟨hz0, hz1, hz2⟩ := hzz
  obtain ⟨g, cur, rfl, hbg, hgc, hcur⟩ := HE
  have hm : ys.length = m := HR.1
  have hlen : m ≤ 140737488355328 := Nat.le_trans (Nat.le_mul_of_pos_right _ hb0) hl
  have hmax : (140737488355328 : Nat) ≤ maxLen := by simp [maxLen]
  rcases Nat.eq_zero_or_pos m with h0 | h0
  · subst h0
    obtain rfl : ys = [] := List.eq_nil_of_length_eq_zero hm
    rw [if_pos hw]
    have hR : (Kd.scalar enc h1).R e W base (fun _ => True) (.slice (some ⟨g, 0, none⟩) 0 0) [] := Kd.R_of_own ⟨by simp [encs], .inr ⟨g, 0, cur, rfl, hbg, hgc, Nat.le_refl _, Nat.zero_le _, by simpa using hcur, by simp [encs]⟩⟩ (fun _ _ => trivial)
    have hrun : (Builtin.append_ #[t, t] o.type #[.slice (some ⟨g, 0, none⟩) 0 0, .slice A 0 c]).run P W = .ok (.slice (some ⟨g, 0, none⟩) 0 0) W := by
      rcases A with _ | ad
      · simp [Builtin.append_, run_underlying ht, sizeOf, typeInfo, hi, Builtin.lenOf, Builtin.firstCells, storeCells]
      · simp [Builtin.append_, run_underlying ht, sizeOf, typeInfo, hi, Builtin.lenOf, Builtin.firstCells, storeCells, loadCells, loadCellsFrom]
    unfold Oper.wp
    simp [execOp, ho, resolve, invoke, builtin, hs, hx, hrun, Result.andThen]
    exact h _ _ hR (Below.refl _ W)
  · obtain ⟨ad, rfl, _⟩ := HR.2.2 h0
    obtain ⟨news, hnr, hnc⟩ := ReadsRow.inner_ HR
    have hnews : news = encs enc ys := by
      apply List.ext_getElem?
      intro j
      have hl1 : news.length = ys.length := by have := hnr.1; simpa [Kd.scalar] using this
      rcases Nat.lt_or_ge j ys.length with hj | hj
      · have h2 := hnr.2 j ys[j] (List.getElem?_eq_getElem hj)
        have h3 : (news.drop (j * 1)).take 1 = [enc ys[j]] := h2
        rw [Nat.mul_one] at h3
        have h4 := congrArg (·[0]?) h3
        simp at h4
        simp [encs, h4, hj]
      · rw [List.getElem?_eq_none (by omega), List.getElem?_eq_none (by simpa [encs] using hj)]
    refine step_append_grows hg s x t ho e i0 z 1 bytes ht hi hz0 hz1 hz2 hz (by decide) (some ⟨g, 0, none⟩) 0 0 [] hs (fun h => by cases h) (by simp) (fun b _ j u hj => by simp at hj) ad m c news hx (by rw [hnews]; simp [encs, hm]) hnc
      (fun u hu => by rw [hnews] at hu; simp [encs] at hu; obtain ⟨q, _, rfl⟩ := hu; exact h1 q) (by omega) (by omega) (by simpa using hl) ?_
    intro v1 w1 hown hgr
    have hb : Below W.heap.size W w1 := ⟨hgr.os, hgr.tape, hgr.output, hgr.size, fun k hk => hgr.block k hk (by simp)⟩
    refine h v1 w1 (Kd.R_of_own ?_ (fun _ _ => trivial)) hb
    have h5 := own_weaken hown hbase
    rw [hnews, List.nil_append, Nat.zero_add, ← hm] at h5
    exact h5
end
end Go.Proofs.Ytkeadpichlgagaa.Rg
namespace Go.Proofs.Ytkeadpichlgagaa.Rd
open Go Go.RowKit Go.Proofs.YtkeadpichlgagaaW.PrintLast Go.Proofs.Ytkeadpichlgagaa.Rg
set_option linter.unusedVariables false
set_option linter.unusedSimpArgs false
def Apart (u v : Value) : Prop := ∀ b, u.ownBlock = some b → v.ownBlock ≠ some b
def FrOk (cls : Nat → Nat) (i : Nat) (ns : List (Nat × Tmp)) (vals : Nat → Value) (W : World) (v : Value) : Prop := ∀ b, v.ownBlock = some b → W.heap.size ≤ b ∨ ∃ q ∈ ns, cls q.1 = cls i ∧ (vals q.1).ownBlock = some b
theorem FrOk.none {cls : Nat → Nat} {i : Nat} {ns : List (Nat × Tmp)} {vals : Nat → Value} {W : World} {v : Value} (h : v.ownBlock = none) : FrOk cls i ns vals W v := fun b hb => by rw [h] at hb; cases hb
section
variable {P : Program} {ops : Array Oper} {Q : Exit → Act → World → Prop} {md : Region.Mode} {S : World → Prop} {ds : List Nat} {cls : Nat → Nat}
def Step1 (P : Program) (ops : Array Oper) (a : Act) (w : World) (cls : Nat → Nat) (Φ : Nat → Value → World → Prop) (p : Ent) : Prop :=
  ∀ o : Oper, ops[p.1]? = some o → ∀ (vals : Nat → Value) (W : World), Below w.heap.size w W → (∀ q ∈ p.2.2.2, Φ q.1 (vals q.1) W) →
    if p.2.2.1 = true then ∃ v, Yields P ops o v (actOf a vals p.2.2.2) ∧ Φ p.1 v W ∧ FrOk cls p.1 p.2.2.2 vals W v else
    ∀ K : Act → World → Prop, Shut (∀ v W', Below W.heap.size W W' → Φ p.1 v W' → FrOk cls p.1 p.2.2.2 vals W v → K ((actOf a vals p.2.2.2).put (some p.2.1) v) W') →
      if Region.wanted o (yielded ops (actOf a vals p.2.2.2).tmps) = true then Oper.wp P o (actOf a vals p.2.2.2) W K (fun _ _ _ => False) else K ((actOf a vals p.2.2.2).put (some p.2.1) undef) W
def Steps (P : Program) (ops : Array Oper) (a : Act) (w : World) (cls : Nat → Nat) (Φ : Nat → Value → World → Prop) (R : List Ent) : Prop := ∀ p ∈ R, Step1 P ops a w cls Φ p
theorem Steps.nil {a : Act} {w : World} {Φ : Nat → Value → World → Prop} : Steps P ops a w cls Φ [] := fun p h => by cases h
theorem Steps.cons {a : Act} {w : World} {Φ : Nat → Value → World → Prop} {i : Nat} {t : Tmp} {ns : List (Nat × Tmp)} {r : List Ent} {o : Oper} (ho : ops[i]? = some o)
    (h : ∀ (vals : Nat → Value) (W : World), Below w.heap.size w W → (∀ q ∈ ns, Φ q.1 (vals q.1) W) → ∀ K : Act → World → Prop,
      Shut (∀ v W', Below W.heap.size W W' → Φ i v W' → FrOk cls i ns vals W v → K ((actOf a vals ns).put (some t) v) W') →
      if Region.wanted o (yielded ops (actOf a vals ns).tmps) = true then Oper.wp P o (actOf a vals ns) W K (fun _ _ _ => False) else K ((actOf a vals ns).put (some t) undef) W)
    (hr : Steps P ops a w cls Φ r) : Steps P ops a w cls Φ ((i, t, false, ns) :: r) := fun p hp => by
  rcases List.mem_cons.1 hp with rfl | hp
  · intro o' ho' vals W hW hΦ
    rw [if_neg (show ¬ (false = true) by decide)]
    have : o' = o := Option.some.inj (ho'.symm.trans ho)
    subst this
    exact h vals W hW hΦ
  · exact hr p hp
theorem Steps.pure {a : Act} {w : World} {Φ : Nat → Value → World → Prop} {i : Nat} {t : Tmp} {ns : List (Nat × Tmp)} {r : List Ent} {o : Oper} (ho : ops[i]? = some o)
    (h : ∀ (vals : Nat → Value) (W : World), Below w.heap.size w W → (∀ q ∈ ns, Φ q.1 (vals q.1) W) → ∃ v, Yields P ops o v (actOf a vals ns) ∧ Φ i v W ∧ FrOk cls i ns vals W v)
    (hr : Steps P ops a w cls Φ r) : Steps P ops a w cls Φ ((i, t, true, ns) :: r) := fun p hp => by
  rcases List.mem_cons.1 hp with rfl | hp
  · intro o' ho' vals W hW hΦ
    rw [if_pos rfl]
    have : o' = o := Option.some.inj (ho'.symm.trans ho)
    subst this
    exact h vals W hW hΦ
  · exact hr p hp
theorem rg_ {R : List Ent} {n : Nat} (fuel' : Nat) {l : Array Bool} (l' : Array Bool) {a : Act} {w : World} (cls : Nat → Nat) (Φ : Nat → Value → World → Prop)
    (hlb : ∀ i v w1, Φ i v w1 → ∀ b, v.ownBlock = some b → b < w1.heap.size)
    (hc : rgB md ops l l' R = true) (hf : R.length + fuel' = n)
    (hst : ∀ i v w1 w2, Φ i v w1 → Below w1.heap.size w1 w2 → Φ i v w2)
    (hS : ∀ w1, Below w.heap.size w w1 → S w1)
    (hstep : Steps P ops a w cls Φ R)
    (hQ : ∀ c a (t : Tmp) v w, Q (.panic c) (a.put (some t) v) w → Q (.panic c) a w)
    (hcont : ∀ (vals : Nat → Value) W, Below w.heap.size w W → (∀ p ∈ R, Φ p.1 (vals p.1) W) → (∀ p ∈ R, ∀ r ∈ R, cls p.1 ≠ cls r.1 → Apart (vals p.1) (vals r.1)) → S W → wpAnyLast P md ops Q S ds fuel' l' (actOf a vals (R.map fun p => (p.1, p.2.1))) W) :
    wpAnyLast P md ops Q S ds n l a w := by
  subst hf
  simp only [rgB, Bool.and_eq_true, beq_iff_eq, decide_eq_true_eq] at hc
  obtain ⟨⟨⟨⟨⟨⟨⟨⟨⟨⟨⟨⟨c1, c2⟩, c3⟩, c4⟩, c5⟩, c6⟩, c7⟩, c8⟩, c9⟩, c10⟩, c11⟩, c12⟩, c13⟩ := hc
  have hsel := Region.noSelect_spec c1
  have hcl := Region.closedB_spec c2
  have hun : ∀ p ∈ R, l.getD p.1 true = false ∧ (ops[p.1]?).map (·.dst) = some (some p.2.1) := fun p hp => by
    have := List.all_eq_true.1 c3 p hp
    simpa using this
  have hlt : ∀ p ∈ R, p.1 < l.size := fun p hp => by
    rcases Nat.lt_or_ge p.1 l.size with h | h
    · exact h
    · have := (hun p hp).1
      simp [Array.getElem?_eq_none h] at this
  -- the general state
  have main : ∀ (m : Nat) (D : List (Nat × Tmp)) (lD : Array Bool) (vals : Nat → Value) (W : World), D.length + m = R.length → (D.map (·.1)).Nodup → (∀ x ∈ D, ∃ p ∈ R, x = (p.1, p.2.1)) →
      lD.size = l.size → (∀ j, j < l.size → lD.getD j true = (decide (j ∈ D.map (·.1)) || l.getD j true)) → ListedClosed md ops lD → Below w.heap.size w W → (∀ x ∈ D, Φ x.1 (vals x.1) W) → (∀ x ∈ D, ∀ y ∈ D, cls x.1 ≠ cls y.1 → Apart (vals x.1) (vals y.1)) →
      wpAnyLast P md ops Q S ds (m + fuel') lD (actOf a vals D) W := by
    intro m
    induction m with
    | zero =>
      intro D lD vals W hm hn hD hls hl hcD hb hΦ hpw
      have hR' : D.Perm (R.map fun p => (p.1, p.2.1)) := by
        refine perm_of_sub ?_ (fun x hx => by obtain ⟨p, hp, rfl⟩ := hD x hx; exact List.mem_map.2 ⟨p, hp, rfl⟩) (by simp; omega)
        exact nodup_of_map _ hn
      have e1 : actOf a vals D = actOf a vals (R.map fun p => (p.1, p.2.1)) := by
        unfold actOf
        refine putAll_perm (hR'.map _) ?_ a
        rw [List.map_map]
        have : (D.map (·.2)).Perm (R.map (·.2.1)) := by
          have := hR'.map (·.2)
          rwa [List.map_map] at this
        exact this.nodup_iff.2 c5
      have e2 : lD = l' := by
        have hfold : ∀ (R : List Ent) (l : Array Bool), (R.foldl (fun l p => l.setIfInBounds p.1 true) l).size = l.size ∧ ∀ j, j < l.size → (R.foldl (fun l p => l.setIfInBounds p.1 true) l).getD j true = (decide (j ∈ R.map (·.1)) || l.getD j true) := by
          intro R
          induction R with
          | nil => intro l; exact ⟨rfl, fun j _ => by simp⟩
          | cons p R ih =>
            intro l
            obtain ⟨i1, i2⟩ := ih (l.setIfInBounds p.1 true)
            refine ⟨by rw [List.foldl_cons, i1]; simp, fun j hj => ?_⟩
            rw [List.foldl_cons, i2 j (by simpa using hj)]
            by_cases hpj : p.1 = j
            · subst hpj
              simp [hj]
            · rw [getD_set_ne true hpj]
              exact dec_cons _ _ _ hpj _
        obtain ⟨f1, f2⟩ := hfold R l
        rw [c10] at f1 f2
        refine Array.ext (by rw [hls, f1]) (fun j h1 h2 => ?_)
        have g1 := hl j (by omega)
        have g2 := f2 j (by omega)
        have hmem : j ∈ D.map (·.1) ↔ j ∈ R.map (·.1) := by
          have := (hR'.map (·.1)).mem_iff (a := j)
          rwa [List.map_map] at this
        rw [show decide (j ∈ D.map (·.1)) = decide (j ∈ R.map (·.1)) from by simp only [hmem]] at g1
        rw [← g2] at g1
        simpa [h1, h2] using g1
      rw [e1, e2, Nat.zero_add]
      have hin : ∀ p ∈ R, (p.1, p.2.1) ∈ D := fun p hp => hR'.mem_iff.2 (List.mem_map.2 ⟨p, hp, rfl⟩)
      exact hcont vals W hb (fun p hp => hΦ _ (hin p hp)) (fun p hp r hr h => hpw _ (hin p hp) _ (hin r hr) h) (hS W hb)
    | succ m ih =>
      intro D lD vals W hm hn hD hls hl hcD hb hΦ hpw
      -- one that has not come up
      obtain ⟨p0, hp0, hp0D⟩ : ∃ p ∈ R, p.1 ∉ D.map (·.1) := by
        false_or_by_contra
        rename_i hno
        have hall : ∀ p ∈ R, p.1 ∈ D.map (·.1) := fun p hp => by
          false_or_by_contra
          rename_i h
          exact hno ⟨p, hp, h⟩
        have : ∀ (A B : List Nat), A.Nodup → (∀ x ∈ A, x ∈ B) → A.length ≤ B.length := by
          intro A
          induction A with
          | nil => intro B _ _; simp
          | cons y A ih =>
            intro B hA hAB
            have hy := hAB y List.mem_cons_self
            have hA' := List.nodup_cons.1 hA
            have := ih (B.erase y) hA'.2 (fun z hz => by
              have hz' := hAB z (List.mem_cons_of_mem _ hz)
              rcases List.mem_cons.1 ((List.perm_cons_erase hy).mem_iff.1 hz') with rfl | h
              · exact absurd hz hA'.1
              · exact h)
            rw [List.length_erase_of_mem hy] at this
            have : 0 < B.length := List.length_pos_of_mem hy
            simp; omega
        have := this (R.map (·.1)) (D.map (·.1)) c4 (fun x hx => by obtain ⟨p, hp, rfl⟩ := List.mem_map.1 hx; exact hall p hp)
        simp at this
        omega
      have hunD : lD.getD p0.1 true = false := by
        rw [hl _ (hlt p0 hp0), (hun p0 hp0).1]
        simp only [hp0D, decide_false, Bool.or_false]
      have hfuel : m + 1 + fuel' = (m + fuel') + 1 := by omega
      have entry : ∀ p ∈ R, p.1 ∈ Region.ready md ops lD → ∃ o, ops[p.1]? = some o ∧ o.dst = some p.2.1 ∧ (∀ q ∈ p.2.2.2, q ∈ D) ∧ execOp (actOf a vals D).eval o = execOp (actOf a vals p.2.2.2).eval o ∧
          Region.wanted o (yielded ops (actOf a vals D).tmps) = Region.wanted o (yielded ops (actOf a vals p.2.2.2).tmps) ∧ (actOf a vals p.2.2.2).tmps.size = (actOf a vals D).tmps.size ∧
          ∀ v W', (Below W.heap.size W W' ∧ Φ p.1 v W' ∧ FrOk cls p.1 p.2.2.2 vals W v) → (p.1 ∉ ds → S W → S W') ∧ wpAnyLast P md ops Q S ds (m + fuel') (lD.setIfInBounds p.1 true) ((actOf a vals D).put (some p.2.1) v) W' := by
        intro p hp hi
        obtain ⟨hiun, o, ho, hall⟩ := mem_ready.1 hi
        have hisz : p.1 < ops.size := (Array.getElem?_eq_some_iff.1 ho).1
        have hisl : p.1 < l.size := by rw [c11]; exact hisz
        have hi2 := hl p.1 hisl
        rw [hiun] at hi2
        obtain ⟨hiD, hil⟩ : p.1 ∉ D.map (·.1) ∧ l.getD p.1 true = false := by
          have := hi2.symm
          simp only [Bool.or_eq_false_iff, decide_eq_false_iff_not] at this
          exact this
        obtain ⟨i, t, pu, ns⟩ := p
        simp only at hi ho hiD hil hisz hisl hiun
        have hdst : o.dst = some t := by
          have := (hun _ hp).2
          rw [ho] at this
          simpa using this
        have h6 := List.all_eq_true.1 c6 _ hp
        simp only [Bool.and_eq_true, decide_eq_true_eq] at h6
        obtain ⟨hns, h6⟩ := h6
        have hsub : ∀ q ∈ ns, q ∈ D := fun q hq => by
          have h1 := List.all_eq_true.1 h6 q hq
          simp only [Bool.and_eq_true] at h1
          obtain ⟨r, hr, hrq⟩ := List.any_eq_true.1 h1.1
          simp only [Bool.and_eq_true, beq_iff_eq] at hrq
          have hqlt : q.1 < l.size := by rw [← hrq.1]; exact hlt r hr
          have hqD : q.1 ∈ D.map (·.1) := by
            false_or_by_contra
            rename_i hno
            have hqu : lD.getD q.1 true = false := by
              rw [hl _ hqlt, ← hrq.1, (hun r hr).1]
              rw [← hrq.1] at hno
              simp only [hno, decide_false, Bool.or_false]
            exact Region.reach_not_ready hcD h1.2 hqu hi
          obtain ⟨x, hx, hxq⟩ := List.mem_map.1 hqD
          obtain ⟨p, hp, rfl⟩ := hD x hx
          simp only at hxq
          have : p = r := by
            have hpr : p.1 = r.1 := by rw [hxq, hrq.1]
            exact inj_of_nodup (·.1) c4 hp hr hpr
          subst this
          have : q = (p.1, p.2.1) := by
            obtain ⟨q1, q2⟩ := q
            simp only at hrq
            rw [hrq.1, hrq.2]
          rw [this]
          exact hx
        have hDn : D.Nodup := nodup_of_map _ hn
        obtain ⟨os, hperm, hos⟩ := perm_split hDn (nodup_of_map _ hns) hsub
        have e1 : actOf a vals D = putAll (actOf a vals ns) (os.map fun p => (p.2, vals p.1)) := by
          unfold actOf
          rw [← putAll_append, ← List.map_append]
          refine putAll_perm (hperm.map _) ?_ a
          rw [List.map_map]
          have hslots : (D.map (·.2)).Nodup := by
            have h1 : ∀ (D : List (Nat × Tmp)), (D.map (·.1)).Nodup → (∀ x ∈ D, ∃ p ∈ R, x = (p.1, p.2.1)) → (D.map (·.2)).Nodup := by
              intro D
              induction D with
              | nil => intro _ _; exact List.nodup_nil
              | cons x D ihD =>
                intro hn hD
                have hn' := List.nodup_cons.1 hn
                refine List.nodup_cons.2 ⟨fun hx => ?_, ihD hn'.2 (fun y hy => hD y (List.mem_cons_of_mem _ hy))⟩
                obtain ⟨y, hy, hyx⟩ := List.mem_map.1 hx
                obtain ⟨p, hp, rfl⟩ := hD x List.mem_cons_self
                obtain ⟨r, hr, rfl⟩ := hD y (List.mem_cons_of_mem _ hy)
                have := inj_of_nodup (·.2.1) c5 hp hr hyx.symm
                subst this
                exact hn'.1 (List.mem_map.2 ⟨_, hy, rfl⟩)
            exact h1 D hn hD
          exact hslots
        have hoff : ∀ x ∈ os.map (fun p => (p.2, vals p.1)), x.1 ∉ o.looksAt ops := by
          intro x hx
          obtain ⟨y, hy, rfl⟩ := List.mem_map.1 hx
          obtain ⟨hyD, hyn⟩ := hos y hy
          obtain ⟨r, hr, rfl⟩ := hD y hyD
          have h7 := List.all_eq_true.1 (List.all_eq_true.1 c7 _ hp) r hr
          simp only at h7
          rcases Bool.or_eq_true _ _ ▸ h7 with h | h
          · obtain ⟨q, hq, e⟩ := List.any_eq_true.1 h
            simp only [beq_iff_eq] at e
            have hqD := hsub q hq
            have : q = (r.1, r.2.1) := by
              exact inj_of_nodup (·.1) hn hqD hyD e
            exact absurd (this ▸ hq) hyn
          · rw [ho] at h
            simpa using h
        obtain ⟨x1, x2⟩ := putAll_same (ops := ops) o (fun cs b => hsel i o cs b ho) _ hoff (actOf a vals ns)
        rw [← e1] at x1 x2
        have hsz : (actOf a vals ns).tmps.size = (actOf a vals D).tmps.size := by unfold actOf; rw [putAll_size, putAll_size]
        have hcont' : ∀ v W', (Below W.heap.size W W' ∧ Φ i v W' ∧ FrOk cls i ns vals W v) → (i ∉ ds → S W → S W') ∧ wpAnyLast P md ops Q S ds (m + fuel') (lD.setIfInBounds i true) ((actOf a vals D).put (some t) v) W' := by
          rintro v W' ⟨h1, h2, h3⟩
          have hb' : Below w.heap.size w W' := hb.trans (h1.mono hb.size)
          refine ⟨fun _ _ => hS W' hb', ?_⟩
          have e3 : (actOf a vals D).put (some t) v = actOf a (fun j => if j = i then v else vals j) (D ++ [(i, t)]) := by
            unfold actOf
            rw [List.map_append, putAll_append]
            have : D.map (fun p => (p.2, if p.1 = i then v else vals p.1)) = D.map (fun p => (p.2, vals p.1)) := List.map_congr_left fun q hq => by
              have : q.1 ≠ i := fun e => hiD (List.mem_map.2 ⟨q, hq, e⟩)
              simp [this]
            rw [this]
            simp [putAll]
          rw [e3]
          refine ih (D ++ [(i, t)]) (lD.setIfInBounds i true) _ W' (by simp; omega) ?_ ?_ (by simpa using hls) (fun j hj => ?_) (hcD.set hi) hb' (fun x hx => ?_) ?_
          · rw [List.map_append, List.nodup_append]
            refine ⟨hn, by simp, fun x hx y hy => ?_⟩
            simp at hy
            subst hy
            rintro rfl
            exact hiD hx
          · intro x hx
            rcases List.mem_append.1 hx with hx | hx
            · exact hD x hx
            · simp at hx; subst hx; exact ⟨_, hp, rfl⟩
          · by_cases hij : i = j
            · subst hij
              simp [hls, hj]
            · rw [getD_set_ne true hij, hl j hj, List.map_append]
              exact dec_snoc _ _ _ hij _
          · rcases List.mem_append.1 hx with hx | hx
            · have : x.1 ≠ i := fun e => hiD (List.mem_map.2 ⟨x, hx, e⟩)
              simp only [this, if_false]
              exact hst _ _ _ _ (hΦ x hx) h1
            · simp at hx
              subst hx
              simp only [if_true]
              exact h2
          · intro x hx y hy hxy
            have hval : ∀ z ∈ D, (if z.1 = i then v else vals z.1) = vals z.1 := fun z hz => if_neg (fun e => hiD (List.mem_map.2 ⟨z, hz, e⟩))
            have key : ∀ z ∈ D, cls z.1 ≠ cls i → Apart v (vals z.1) := by
              intro z hz hzc b hb1 hb2
              rcases h3 b hb1 with h | ⟨q, hq, hc, he⟩
              · have := hlb _ _ _ (hΦ z hz) b hb2
                omega
              · exact hpw q (hsub q hq) z hz (fun e => hzc (e.symm.trans hc)) b he hb2
            rcases List.mem_append.1 hx with hx | hx
            · rcases List.mem_append.1 hy with hy | hy
              · simp only [hval x hx, hval y hy]
                exact hpw x hx y hy hxy
              · simp at hy
                subst hy
                simp only [hval x hx, if_true]
                exact fun b h1 h2 => key x hx hxy b h2 h1
            · simp at hx
              subst hx
              rcases List.mem_append.1 hy with hy | hy
              · simp only [hval y hy, if_true]
                exact key y hy (Ne.symm hxy)
              · simp at hy
                subst hy
                exact absurd rfl hxy
        exact ⟨o, ho, hdst, hsub, x1, x2, hsz, hcont'⟩
      rw [hfuel]
      by_cases hpu : ∃ p ∈ R, p.2.2.1 = true ∧ p.1 ∈ Region.ready md ops lD
      · obtain ⟨p, hp, hpp, hpr⟩ := hpu
        obtain ⟨o, ho, hdst, hsub, x1, x2, hsz, hco⟩ := entry p hp hpr
        have hst1 := hstep p hp o ho vals W hb (fun q hq => hΦ q (hsub q hq))
        rw [if_pos hpp] at hst1
        obtain ⟨v, hy, hv⟩ := hst1
        have hfree : Region.free md ops (p.2.2.2.foldl (fun l q => l.setIfInBounds q.1 true) l) p.1 = true := by
          have := List.all_eq_true.1 c12 p hp
          rw [hpp] at this
          simpa using this
        refine wpAnyLast_any (v := v) ho hsel (fun c a w => by rw [hdst]; exact hQ c a _ _ w) (m + fuel') lD _ W (fun j oj hj hne hju hno => ?_) hpr (hy.of_same x1 x2) ?_
        · refine Region.free_spec ho hfree j oj hj hne ?_ hno
          have hjl : j < l.size := by rw [c11]; exact (Array.getElem?_eq_some_iff.1 hj).1
          have := hl j hjl
          rw [hju] at this
          have := this.symm
          simp only [Bool.or_eq_false_iff] at this
          rw [fold_off]
          · exact this.2
          · intro q hq e
            have h1 : j ∈ D.map (·.1) := List.mem_map.2 ⟨q, hsub q hq, e⟩
            exact absurd (of_decide_eq_false this.1) (fun h => h h1)
        · rw [hdst]
          exact (hco v W ⟨Below.refl _ W, hv⟩).2
      -- one that makes memory has not come up
      obtain ⟨p0, hp0, hp0D, hp0n⟩ : ∃ p ∈ R, p.1 ∉ D.map (·.1) ∧ p.2.2.1 = false := by
        false_or_by_contra
        rename_i hno
        have hno' : ∀ p ∈ R, p.1 ∉ D.map (·.1) → p.2.2.1 = true := fun p hp hd => by
          cases h : p.2.2.1
          · exact absurd ⟨p, hp, hd, h⟩ hno
          · rfl
        have low : ∀ k : Nat, ∀ p ∈ R, p.1 = k → p.1 ∉ D.map (·.1) → False := by
          intro k
          induction k using Nat.strongRecOn with
          | _ k ihk =>
            intro p hp hpk hpd
            have hpsz : p.1 < ops.size := by rw [← c11]; exact hlt p hp
            have ho : ops[p.1]? = some ops[p.1] := Array.getElem?_eq_getElem hpsz
            have hpu2 : lD.getD p.1 true = false := by
              rw [hl _ (hlt p hp), (hun p hp).1]
              simp only [hpd, decide_false, Bool.or_false]
            have hnr : ¬ ∀ e ∈ ops[p.1].after, Region.binds md e = true → lD.getD e.on false = true := fun hall => hpu ⟨p, hp, hno' p hp hpd, mem_ready.2 ⟨hpu2, _, ho, hall⟩⟩
            simp only [Classical.not_forall] at hnr
            obtain ⟨e, he, hbd, hne⟩ := hnr
            have h13 := List.all_eq_true.1 c13 p hp
            rw [ho] at h13
            simp only [Option.map_some, Option.getD_some] at h13
            have h13 := Array.all_eq_true_iff_forall_mem.1 h13 e he
            rw [hbd] at h13
            simp only [Bool.not_true, Bool.false_or, Bool.or_eq_true] at h13
            have h9 := List.all_eq_true.1 c9 p.1 (List.mem_range.2 hpsz)
            rw [ho] at h9
            simp only [Option.map_some, Option.getD_some] at h9
            have h9 := Array.all_eq_true_iff_forall_mem.1 h9 e he
            rw [hbd] at h9
            have hon : e.on < p.1 := by simpa using h9
            have honl : e.on < l.size := by have := hlt p hp; omega
            rcases h13 with h | h
            · have h2 := hl e.on honl
              rw [getD_default honl true false, h, Bool.or_true] at h2
              rw [getD_default (by rw [hls]; exact honl) true false] at h2
              exact hne h2
            · obtain ⟨r, hr, hre⟩ := List.any_eq_true.1 h
              have hre' : r.1 = e.on := by simpa using hre
              refine ihk r.1 (by rw [hre']; omega) r hr rfl (fun hrD => hne ?_)
              have h2 := hl e.on honl
              rw [hre'] at hrD
              rw [show decide (e.on ∈ D.map (·.1)) = true from decide_eq_true hrD, Bool.true_or] at h2
              rw [getD_default (by rw [hls]; exact honl) true false] at h2
              exact h2
        exact low p0.1 p0 hp0 rfl hp0D
      have hunD : lD.getD p0.1 true = false := by
        rw [hl _ (hlt p0 hp0), (hun p0 hp0).1]
        simp only [hp0D, decide_false, Bool.or_false]
      refine ⟨fun h0 => ?_, fun i hi => ?_⟩
      · -- something is ready: the least that has not come up
        exfalso
        have key : ∀ j, j < ops.size → lD.getD j true = false → ∃ k, k ∈ Region.ready md ops lD := by
          intro j
          induction j using Nat.strongRecOn with
          | _ j ihj =>
            intro hj hju
            by_cases hrd : j ∈ Region.ready md ops lD
            · exact ⟨j, hrd⟩
            · have ho : ops[j]? = some ops[j] := Array.getElem?_eq_getElem hj
              have hnr : ¬ ∀ e ∈ ops[j].after, Region.binds md e = true → lD.getD e.on false = true := fun hall => hrd (mem_ready.2 ⟨hju, _, ho, hall⟩)
              simp only [Classical.not_forall] at hnr
              obtain ⟨e, he, hbd, hne⟩ := hnr
              have h9 := List.all_eq_true.1 c9 j (List.mem_range.2 hj)
              rw [ho] at h9
              have h9' : ∀ e ∈ ops[j].after, Region.binds md e = true → e.on < j := by
                simp only [Option.map_some, Option.getD_some] at h9
                intro e he hbd
                have := Array.all_eq_true_iff_forall_mem.1 h9 e he
                rw [hbd] at this
                simpa using this
              have hlt' := h9' e he hbd
              have hsz : e.on < lD.size := by rw [hls, c11]; omega
              refine ihj e.on hlt' (by omega) ?_
              rw [getD_default hsz true false]
              simpa using hne
        obtain ⟨k, hk⟩ := key p0.1 (by rw [← c11]; exact hlt p0 hp0) hunD
        rw [h0] at hk
        cases hk
      · have hiun := (mem_ready.1 hi).1
        obtain ⟨p, hp, rfl⟩ : ∃ p ∈ R, p.1 = i := by
          obtain ⟨_, o, ho, _⟩ := mem_ready.1 hi
          have hisz : i < ops.size := (Array.getElem?_eq_some_iff.1 ho).1
          have hisl : i < l.size := by rw [c11]; exact hisz
          have hil : l.getD i true = false := by
            have hi2 := hl i hisl
            rw [hiun] at hi2
            have := hi2.symm
            simp only [Bool.or_eq_false_iff] at this
            exact this.2
          have h8 := List.all_eq_true.1 c8 i (List.mem_range.2 hisz)
          rw [hil, Bool.false_or] at h8
          rcases Bool.or_eq_true _ _ ▸ h8 with h | h
          · obtain ⟨p, hp, e⟩ := List.any_eq_true.1 h
            exact ⟨p, hp, by simpa using e⟩
          · have h3 := List.all_eq_true.1 h p0 hp0
            rw [hp0n, Bool.false_or] at h3
            exact absurd hi (Region.reach_not_ready hcD h3 hunD)
        obtain ⟨o, ho, hdst, hsub, x1, x2, hsz, hco⟩ := entry p hp hi
        have hst1 := hstep p hp o ho vals W hb (fun q hq => hΦ q (hsub q hq))
        have hnp : ¬ p.2.2.1 = true := fun h => hpu ⟨p, hp, h, hi⟩
        rw [if_neg hnp] at hst1
        have hst1 := hst1 (fun c' W' => ∃ v, c' = (actOf a vals p.2.2.2).put (some p.2.1) v ∧ (Below W.heap.size W W' ∧ Φ p.1 v W' ∧ FrOk cls p.1 p.2.2.2 vals W v)) (show _ from fun v W' h1 h2 h3 => ⟨v, rfl, h1, h2, h3⟩)
        unfold wpOp
        simp only [ho]
        rw [x2]
        split
        · rename_i hw
          simp only [hw, if_true] at hst1
          exact .inl (wp_other hdst hsz x1 hst1 hco)
        · rename_i hw
          simp only [hw] at hst1
          obtain ⟨v, e, hv⟩ := hst1
          have := put_back e hsz
          rw [hdst, this]
          exact hco v W hv
  have h0 := main R.length [] l (fun _ => undef) w (by simp) List.nodup_nil (fun x hx => by cases hx) rfl (fun j _ => by simp) hcl (Below.refl _ w) (fun x hx => by cases hx) (fun x hx => by cases hx)
  exact h0
open Go.Proofs.YtkeadpichlgagaaW.PrintWords in
theorem fresh_append {o : Oper} {a : Act} {K : Act → World → Prop} {α : Type} {enc : α → Value} {h1 : ∀ x : α, (enc x).oneCell' = true} {W : World} (base : Nat) (hw : Region.wanted o (yielded ops a.tmps) = true) (s x : Operand) (t e : TypeId) (z : Value) (bytes : Nat)
    (ho : o.op = .call { callee := .builtin .append, args := #[s, x], argTypes := #[t, t] })
    (hg : o.guard = none) (ht : P.underlying t = some (.slice e)) (hinfo : (P.info? e).map (fun i => (i.zero, i.size, i.bytes)) = some (some z, 1, bytes)) (hz : z.cells.size = 1) (hb0 : 0 < bytes)
    (v : Value) (ys : List α) (A : Option Addr) (m c : Nat) (hs : a.eval s = v) (hx : a.eval x = .slice A m c) (HE : Empty e base v W) (HR : (Kd.scalar enc h1).C W A m ys) (hbase : base ≤ W.heap.size) (hl : m * bytes ≤ 140737488355328)
    (h : ∀ v1 w1, (Kd.scalar enc h1).R e w1 base (fun _ => True) v1 ys → Below W.heap.size W w1 → (∀ b, v1.ownBlock = some b → W.heap.size ≤ b ∨ v.ownBlock = some b) → K (a.put o.dst v1) w1) :
    if Region.wanted o (yielded ops a.tmps) = true then Oper.wp P o a W K Q else K (a.put o.dst undef) W := by
  obtain ⟨i0, hi, hzz⟩ := Option.map_eq_some_iff.1 hinfo
  simp only [Prod.mk.injEq] at hzz
  obtain ⟨hz0, hz1, hz2⟩ := hzz
  obtain ⟨g, cur, rfl, hbg, hgc, hcur⟩ := HE
  have hm : ys.length = m := HR.1
  have hlen : m ≤ 140737488355328 := Nat.le_trans (Nat.le_mul_of_pos_right _ hb0) hl
  have hmax : (140737488355328 : Nat) ≤ maxLen := by simp [maxLen]
  rcases Nat.eq_zero_or_pos m with h0 | h0
  · subst h0
    obtain rfl : ys = [] := List.eq_nil_of_length_eq_zero hm
    rw [if_pos hw]
    have hR : (Kd.scalar enc h1).R e W base (fun _ => True) (.slice (some ⟨g, 0, none⟩) 0 0) [] := Kd.R_of_own ⟨by simp [encs], .inr ⟨g, 0, cur, rfl, hbg, hgc, Nat.le_refl _, Nat.zero_le _, by simpa using hcur, by simp [encs]⟩⟩ (fun _ _ => trivial)
    have hrun : (Builtin.append_ #[t, t] o.type #[.slice (some ⟨g, 0, none⟩) 0 0, .slice A 0 c]).run P W = .ok (.slice (some ⟨g, 0, none⟩) 0 0) W := by
      rcases A with _ | ad
      · simp [Builtin.append_, run_underlying ht, sizeOf, typeInfo, hi, Builtin.lenOf, Builtin.firstCells, storeCells]
      · simp [Builtin.append_, run_underlying ht, sizeOf, typeInfo, hi, Builtin.lenOf, Builtin.firstCells, storeCells, loadCells, loadCellsFrom]
    unfold Oper.wp
    simp [execOp, ho, resolve, invoke, builtin, hs, hx, hrun, Result.andThen]
    exact h _ _ hR (Below.refl _ W) (fun b hb => .inr hb)
  · obtain ⟨ad, rfl, _⟩ := HR.2.2 h0
    obtain ⟨news, hnr, hnc⟩ := ReadsRow.inner_ HR
    have hnews : news = encs enc ys := by
      apply List.ext_getElem?
      intro j
      have hl1 : news.length = ys.length := by have := hnr.1; simpa [Kd.scalar] using this
      rcases Nat.lt_or_ge j ys.length with hj | hj
      · have h2 := hnr.2 j ys[j] (List.getElem?_eq_getElem hj)
        have h3 : (news.drop (j * 1)).take 1 = [enc ys[j]] := h2
        rw [Nat.mul_one] at h3
        have h4 := congrArg (·[0]?) h3
        simp at h4
        simp [encs, h4, hj]
      · rw [List.getElem?_eq_none (by omega), List.getElem?_eq_none (by simpa [encs] using hj)]
    refine step_append_grows hg s x t ho e i0 z 1 bytes ht hi hz0 hz1 hz2 hz (by decide) (some ⟨g, 0, none⟩) 0 0 [] hs (fun h => by cases h) (by simp) (fun b _ j u hj => by simp at hj) ad m c news hx (by rw [hnews]; simp [encs, hm]) hnc
      (fun u hu => by rw [hnews] at hu; simp [encs] at hu; obtain ⟨q, _, rfl⟩ := hu; exact h1 q) (by omega) (by omega) (by simpa using hl) ?_
    intro v1 w1 hown hgr
    have hb : Below W.heap.size W w1 := ⟨hgr.os, hgr.tape, hgr.output, hgr.size, fun k hk => hgr.block k hk (by simp)⟩
    refine h v1 w1 (Kd.R_of_own ?_ (fun _ _ => trivial)) hb (fun b hb => .inl (own_base hown b hb))
    have h5 := own_weaken hown hbase
    rw [hnews, List.nil_append, Nat.zero_add, ← hm] at h5
    exact h5
end
end Go.Proofs.Ytkeadpichlgagaa.Rd
