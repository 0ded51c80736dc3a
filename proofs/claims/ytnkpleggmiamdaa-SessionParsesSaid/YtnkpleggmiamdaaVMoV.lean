/- Kept of the text MoV: what is reached (wip/tools/prune.py). -/
import Derived.Test.YtnkpleggmiamdaaVMoT
namespace Go.Proofs.Ytnkpleggmiamdaa.Mo
open Go.RowKit Go.Maps Go.Proofs.YtnkpleggmiamdaaW.PrintWords Go.Proofs.YtnkpleggmiamdaaW.PrintLast Go.Proofs.YtnkpleggmiamdaaW.PrintMore
open Go.Proofs.Ytnkpleggmiamdaa.PSessionParses
set_option linter.unusedVariables false
set_option linter.unusedSimpArgs false
inductive Gd : Sh → Prop
  | num : Gd (.mk 110 [])
  | byt : Gd (.mk 98 [])
  | lst {k : Sh} (h : Gd k) : Gd (.mk 42 [k])
  | row {ks : List Sh} (h : ∀ k ∈ ks, Gd k) : Gd (.mk 91 ks)
mutual
/-- The text of a part. -/
def ren : Sh → List UInt8
  | .mk c ks => if c = 42 then 42 :: renL ks else if c = 91 then 91 :: (renL ks ++ [93]) else if c = 110 then [110] else [98]
def renL : List Sh → List UInt8
  | [] => []
  | k :: ks => ren k ++ renL ks
end
mutual
/-- How deep a part goes. -/
def dep : Sh → Nat
  | .mk c ks => depL ks
def depL : List Sh → Nat
  | [] => 0
  | k :: ks => max (dep k + 1) (depL ks)
end
theorem ren_num : ren (.mk 110 []) = [110] := by simp [ren]
theorem ren_byt : ren (.mk 98 []) = [98] := by simp [ren]
theorem ren_lst (k : Sh) : ren (.mk 42 [k]) = 42 :: ren k := by simp [ren, renL]
theorem ren_row (ks : List Sh) : ren (.mk 91 ks) = 91 :: (renL ks ++ [93]) := by
  conv => lhs; unfold ren
  rfl
theorem renL_nil : renL [] = [] := by simp [renL]
theorem renL_cons (k : Sh) (ks : List Sh) : renL (k :: ks) = ren k ++ renL ks := by
  conv => lhs; unfold renL
theorem dep_eq (c : Int) (ks : List Sh) : dep (.mk c ks) = depL ks := by
  conv => lhs; unfold dep
theorem depL_cons (k : Sh) (ks : List Sh) : depL (k :: ks) = max (dep k + 1) (depL ks) := by
  conv => lhs; unfold depL
theorem depL_nil : depL [] = 0 := by simp [depL]
theorem dep_mem {ks : List Sh} {k : Sh} (h : k ∈ ks) : dep k + 1 ≤ depL ks := by
  induction ks with
  | nil => cases h
  | cons a ks ih =>
    rw [depL_cons]
    rcases List.mem_cons.1 h with rfl | h
    · omega
    · have := ih h; omega
theorem ren_head {k : Sh} (h : Gd k) : ∃ c s, ren k = c :: s ∧ (c = 110 ∨ c = 98 ∨ c = 42 ∨ c = 91) := by
  cases h with
  | num => exact ⟨_, _, ren_num, by simp⟩
  | byt => exact ⟨_, _, ren_byt, by simp⟩
  | lst h => exact ⟨_, _, ren_lst _, by simp⟩
  | row h => exact ⟨_, _, ren_row _, by simp⟩
theorem ren_pos {k : Sh} (h : Gd k) : 0 < (ren k).length := by
  obtain ⟨c, s, e, _⟩ := ren_head h
  rw [e]; simp
theorem pt_ren : ∀ f, (∀ deep l k r, pt f deep l = some (k, r) → l = ren k ++ r ∧ Gd k ∧ dep k + deep ≤ 8) ∧ (∀ deep l ks r, deep ≤ 9 → pts f deep l = some (ks, r) → l = renL ks ++ 93 :: r ∧ (∀ k ∈ ks, Gd k) ∧ depL ks + deep ≤ 9)
  | 0 => ⟨fun _ _ _ _ h => by simp [pt] at h, fun _ _ _ _ _ h => by simp [pts] at h⟩
  | f + 1 => by
    obtain ⟨h1, h2⟩ := pt_ren f
    refine ⟨fun deep l k r h => ?_, fun deep l ks r hd h => ?_⟩
    · cases l with
      | nil => simp [pt] at h
      | cons c s =>
        unfold pt at h
        split at h
        · cases h
        · next hd =>
          split at h
          · next hc => cases h; subst hc; exact ⟨by rw [ren_num]; rfl, .num, by rw [dep_eq, depL_nil]; omega⟩
          · split at h
            · next hc => cases h; subst hc; exact ⟨by rw [ren_byt]; rfl, .byt, by rw [dep_eq, depL_nil]; omega⟩
            · split at h
              · next hc =>
                obtain ⟨p, hp, e⟩ := Option.map_eq_some_iff.1 h
                cases e
                obtain ⟨a, b, d⟩ := h1 _ _ p.1 p.2 hp
                subst hc
                exact ⟨by rw [ren_lst, a]; simp, .lst b, by rw [dep_eq, depL_cons, depL_nil]; omega⟩
              · split at h
                · next hc =>
                  obtain ⟨p, hp, e⟩ := Option.map_eq_some_iff.1 h
                  cases e
                  obtain ⟨a, b, d⟩ := h2 _ _ p.1 p.2 (by omega) hp
                  subst hc
                  exact ⟨by rw [ren_row, a]; simp, .row b, by rw [dep_eq]; omega⟩
                · cases h
    · cases l with
      | nil => simp [pts] at h
      | cons c s =>
        unfold pts at h
        split at h
        · next hc => cases h; subst hc; exact ⟨by rw [renL_nil]; rfl, fun k hk => by simp at hk, by rw [depL_nil]; omega⟩
        · split at h
          · cases h
          · next p hp =>
            obtain ⟨q, hq, e⟩ := Option.map_eq_some_iff.1 h
            cases e
            obtain ⟨a, b, d⟩ := h1 _ _ p.1 p.2 hp
            obtain ⟨a', b', d'⟩ := h2 _ _ q.1 q.2 hd hq
            refine ⟨by rw [renL_cons, a, a']; simp, fun k hk => ?_, by rw [depL_cons]; omega⟩
            rcases List.mem_cons.1 hk with rfl | hk
            · exact b
            · exact b' k hk
mutual
/-- The text of a part is parsed as the part. -/
theorem ren_pt : ∀ (k : Sh) (f deep : Nat) (r : List UInt8), Gd k → dep k + deep ≤ 8 → 2 * (ren k).length + 2 * r.length + 1 ≤ f → pt f deep (ren k ++ r) = some (k, r)
  | .mk c ks, f, deep, r, hg, hd, hf => by
    obtain ⟨f, rfl⟩ : ∃ m, f = m + 1 := ⟨f - 1, by omega⟩
    cases hg with
    | num => rw [ren_num]; unfold pt; simp; omega
    | byt => rw [ren_byt]; unfold pt; simp; omega
    | @lst k h =>
      rw [ren_lst] at hf ⊢
      rw [dep_eq, depL_cons, depL_nil] at hd
      simp only [List.length_cons] at hf
      have ih := ren_pt k f (deep + 1) r h (by omega) (by omega)
      simp only [List.cons_append]
      unfold pt
      rw [if_neg (by omega), if_neg (by decide), if_neg (by decide), if_pos rfl, ih]
      rfl
    | row h =>
      rw [ren_row] at hf ⊢
      rw [dep_eq] at hd
      simp only [List.length_cons, List.length_append, List.length_nil] at hf
      have ih := ren_pts ks f (deep + 1) r h (by omega) (by omega)
      have e : 91 :: (renL ks ++ [93]) ++ r = 91 :: (renL ks ++ 93 :: r) := by simp
      rw [e]
      unfold pt
      rw [if_neg (by omega), if_neg (by decide), if_neg (by decide), if_neg (by decide), if_pos rfl, ih]
      rfl
theorem ren_pts : ∀ (ks : List Sh) (f deep : Nat) (r : List UInt8), (∀ k ∈ ks, Gd k) → depL ks + deep ≤ 9 → 2 * (renL ks).length + 2 * r.length + 4 ≤ f → pts f deep (renL ks ++ 93 :: r) = some (ks, r)
  | [], f, deep, r, hg, hd, hf => by
    obtain ⟨f, rfl⟩ : ∃ m, f = m + 1 := ⟨f - 1, by omega⟩
    rw [renL_nil]
    simp only [List.nil_append]
    unfold pts
    rw [if_pos rfl]
  | k :: ks, f, deep, r, hg, hd, hf => by
    obtain ⟨f, rfl⟩ : ∃ m, f = m + 1 := ⟨f - 1, by omega⟩
    have hk := hg k (by simp)
    rw [depL_cons] at hd
    rw [renL_cons] at hf ⊢
    simp only [List.length_append] at hf
    have hp := ren_pos hk
    have ih1 := ren_pt k f deep (renL ks ++ 93 :: r) hk (by omega) (by simp only [List.length_append, List.length_cons]; omega)
    have ih2 := ren_pts ks f deep r (fun x hx => hg x (by simp [hx])) (by omega) (by omega)
    obtain ⟨c, s, e, hc⟩ := ren_head hk
    rw [List.append_assoc]
    rw [e] at ih1 ⊢
    simp only [List.cons_append] at ih1 ⊢
    unfold pts
    rw [if_neg (by rcases hc with h | h | h | h <;> (subst h; decide)), ih1]
    simp only
    rw [ih2]
    rfl
end
theorem parse_ren {l : List UInt8} {k : Sh} (h : parseF l = some k) : l = ren k ∧ Gd k ∧ dep k ≤ 8 ∧ l.length ≤ 64 := by
  unfold parseF at h
  split at h
  · cases h
  · next hl =>
    split at h
    · next k' hp =>
      cases h
      obtain ⟨a, b, c⟩ := (pt_ren _).1 _ _ _ _ hp
      exact ⟨by rw [a]; simp, b, by omega, by omega⟩
    · cases h
end Go.Proofs.Ytnkpleggmiamdaa.Mo
