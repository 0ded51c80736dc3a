/- lease: all or none, plain. -/
import Derived.Test.YtnkpleggmiamdaaLeG
namespace Go.Proofs.Ytnkpleggmiamdaa.Le
open Go.RowKit Go.Maps Go.Proofs.YtnkpleggmiamdaaW.PrintWords
open Go.Proofs.Ytnkpleggmiamdaa.Mp
set_option linter.unusedVariables false
set_option linter.unusedSimpArgs false

theorem chk_snoc {M : Tab} {o c : Int} : ∀ {l seen : List Int}, chk M o seen (l ++ [c]) = if chk M o seen l ≠ 0 then chk M o seen l else if rightB c o = false then 2 else if get M c ≠ 0 ∨ c ∈ seen ++ l then 120 else 0
  | [], seen => by
    show chk M o seen [c] = _
    rw [List.append_nil]
    rfl
  | x :: l, seen => by
    show (if rightB x o = false then 2 else if get M x ≠ 0 ∨ x ∈ seen then 120 else chk M o (seen ++ [x]) (l ++ [c])) = _
    have e : chk M o seen (x :: l) = if rightB x o = false then 2 else if get M x ≠ 0 ∨ x ∈ seen then 120 else chk M o (seen ++ [x]) l := rfl
    rw [e]
    by_cases h1 : rightB x o = false
    · rw [if_pos h1, if_pos h1, if_pos (by decide)]
    · rw [if_neg h1, if_neg h1]
      by_cases h2 : get M x ≠ 0 ∨ x ∈ seen
      · rw [if_pos h2, if_pos h2, if_pos (by decide)]
      · rw [if_neg h2, if_neg h2, chk_snoc, List.append_assoc]
        rfl
theorem chk_nodup {M : Tab} {o : Int} : ∀ {l seen : List Int}, chk M o seen l = 0 → seen.Nodup → (seen ++ l).Nodup
  | [], seen, _, hn => by rwa [List.append_nil]
  | x :: l, seen, h, hn => by
    unfold chk at h
    split at h
    · cases h
    · split at h
      · cases h
      · next h2 =>
        have hx : x ∉ seen := fun e => h2 (.inr e)
        have := chk_nodup h (by
          rw [List.nodup_append]
          exact ⟨hn, by simp, fun a ha b hb e => by
            have : b = x := by simpa using hb
            exact hx (by rw [← this, ← e]; exact ha)⟩)
        rwa [List.append_assoc] at this
theorem chk_val {M : Tab} {o : Int} : ∀ {l seen : List Int}, (∀ c ∈ l, rightB c o = true) → chk M o seen l ≠ 0 → chk M o seen l = 120
  | [], _, _, h => absurd rfl h
  | x :: l, seen, hr, h => by
    unfold chk at h ⊢
    rw [if_neg (by rw [hr x List.mem_cons_self]; decide)] at h ⊢
    split at h
    · next h2 => rw [if_pos h2]
    · next h2 =>
      rw [if_neg h2]
      exact chk_val (fun c hc => hr c (List.mem_cons_of_mem _ hc)) h
theorem give_other {o x : Int} : ∀ {cs : List Int} {i : Nat} {M : Tab}, x ∉ cs → get (giveF o i cs M) x = get M x
  | [], _, _, _ => rfl
  | c :: r, i, M, h => by
    rw [List.mem_cons, not_or] at h
    show get (giveF o (i + 1) r (aput c (o + i) M)) x = _
    rw [give_other h.2, get_put_other _ h.1]
theorem give_at {o : Int} : ∀ {cs : List Int} {i j : Nat} {M : Tab} (hj : j < cs.length), cs.Nodup → get (giveF o i cs M) cs[j] = o + i + j
  | c :: r, i, 0, M, hj, hn => by
    rw [List.nodup_cons] at hn
    show get (giveF o (i + 1) r (aput c (o + i) M)) c = _
    rw [give_other hn.1, get_put_same]
    omega
  | c :: r, i, j + 1, M, hj, hn => by
    rw [List.nodup_cons] at hn
    show get (giveF o (i + 1) r (aput c (o + i) M)) (r[j]'(by simpa using hj)) = _
    rw [give_at _ hn.2]
    omega
theorem give_len {o : Int} : ∀ {cs : List Int} {i : Nat} {M : Tab}, cs.Nodup → (∀ c ∈ cs, c ∉ M.map (·.1)) → (giveF o i cs M).length = M.length + cs.length
  | [], _, _, _, _ => rfl
  | c :: r, i, M, hn, hm => by
    rw [List.nodup_cons] at hn
    show (giveF o (i + 1) r (aput c (o + i) M)).length = _
    have hc := hm c List.mem_cons_self
    rw [give_len hn.2 (fun x hx => ?_), length_put, if_neg hc, List.length_cons]
    · omega
    · rw [keys_put, if_neg hc, List.mem_append, not_or]
      refine ⟨hm x (List.mem_cons_of_mem _ hx), fun e => ?_⟩
      have : x = c := by simpa using e
      exact hn.1 (this ▸ hx)
theorem Pos.grant {bud : Int} {M : Tab} {o : Int} {cs : List Int} (h : Pos M) (ho : 1 ≤ o) : Pos (grantM bud M o cs) := by
  unfold grantM
  split
  · exact Pos.give ho h
  · exact h

def freeB (M : Tab) (l : List Int) : Bool := decide (chk M 500 [] l = 0)
theorem right30 {c : Int} (h : 0 ≤ c ∧ c < 30) : rightB c 500 = true := decide_eq_true (by omega)
theorem freeB_snoc {M : Tab} {l : List Int} {c : Int} (hc : 0 ≤ c ∧ c < 30) : freeB M (l ++ [c]) = ((freeB M l && (get M c == 0)) && l.all (fun x => x != c)) := by
  unfold freeB
  rw [chk_snoc]
  by_cases h : chk M 500 [] l = 0
  · rw [if_neg (fun e => e h), if_neg (by rw [right30 hc]; decide), decide_eq_true h, Bool.true_and, List.nil_append]
    by_cases h2 : get M c = 0
    · have hb : (get M c == 0) = true := by simpa using h2
      rw [hb, Bool.true_and]
      by_cases h3 : c ∈ l
      · rw [if_pos (.inr h3), decide_eq_false (by decide)]
        symm
        rw [List.all_eq_false]
        exact ⟨c, h3, by simp⟩
      · rw [if_neg (by rintro (e | e); exact e h2; exact h3 e), decide_eq_true rfl]
        symm
        rw [List.all_eq_true]
        intro x hx
        simp only [bne_iff_ne, ne_eq]
        exact fun e => h3 (e ▸ hx)
    · have hb : (get M c == 0) = false := by simpa using h2
      rw [if_pos (.inl h2), hb, Bool.false_and, decide_eq_false (by decide)]
  · rw [if_pos h, decide_eq_false h, Bool.false_and, Bool.false_and]
/-- What a grant of all that is wanted makes. -/
theorem want {bud : Int} {M : Tab} {cs : List Int} (hM : Pos M) (hc : ∀ c ∈ cs, 0 ≤ c ∧ c < 30) (hl : cs.length ≤ 30) :
    (grantE bud M 500 cs = 120 ∧ freeB M cs = false ∧ grantM bud M 500 cs = M) ∨
    (grantE bud M 500 cs = 121 ∧ freeB M cs = true ∧ bud - M.length < (cs.length : Int) ∧ grantM bud M 500 cs = M) ∨
    (grantE bud M 500 cs = 0 ∧ freeB M cs = true ∧ grantM bud M 500 cs = giveF 500 0 cs M ∧ cs.Nodup ∧ (giveF 500 0 cs M).length = M.length + cs.length) := by
  have hE : grantE bud M 500 cs = if chk M 500 [] cs ≠ 0 then chk M 500 [] cs else if bud - (M.length : Int) < (cs.length : Int) then 121 else 0 := by
    conv => lhs; unfold grantE
    rw [if_neg (by rintro (h | h); (have : rightB 0 500 = true := by decide); rw [this] at h; cases h; omega)]
  by_cases h : chk M 500 [] cs = 0
  · rw [if_neg (fun e => e h)] at hE
    have hf : freeB M cs = true := decide_eq_true h
    by_cases h2 : bud - (M.length : Int) < (cs.length : Int)
    · rw [if_pos h2] at hE
      exact .inr (.inl ⟨hE, hf, h2, by unfold grantM; rw [hE, if_neg (by decide)]⟩)
    · rw [if_neg h2] at hE
      have hn : cs.Nodup := by have := chk_nodup h List.nodup_nil; simpa using this
      refine .inr (.inr ⟨hE, hf, by unfold grantM; rw [hE, if_pos rfl], hn, give_len hn (fun c hc e => ?_)⟩)
      have h3 := (chk_ok h c hc).2
      have := get_pos hM e
      omega
  · rw [if_pos h, chk_val (fun c hc' => right30 (hc c hc')) h] at hE
    exact .inl ⟨hE, decide_eq_false h, by unfold grantM; rw [hE, if_neg (by decide)]⟩
end Go.Proofs.Ytnkpleggmiamdaa.Le
