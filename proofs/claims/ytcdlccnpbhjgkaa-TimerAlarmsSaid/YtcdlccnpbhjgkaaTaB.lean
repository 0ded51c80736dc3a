/- timer: the document's list of alarms, against the sorted list. -/
import Derived.Test.YtcdlccnpbhjgkaaTaA
namespace Go.Proofs.Ytcdlccnpbhjgkaa.Ti
open Go.RowKit Go.Maps Go.Proofs.YtcdlccnpbhjgkaaW.PrintWords Go.Proofs.YtcdlccnpbhjgkaaW.PrintLast Go.Proofs.YtcdlccnpbhjgkaaW.PrintMore
open Go.Proofs.Ytcdlccnpbhjgkaa.PTimerAlarms Go.Proofs.Ytcdlccnpbhjgkaa.Mp
set_option linter.unusedVariables false
set_option linter.unusedSimpArgs false

def cv (a : S126) : S70 := ⟨a.f0, a.f1⟩
theorem rd_cv {l : Q} {i : Nat} (h : i < l.length) : rd_T70 (l.map cv) (i : Int) = cv l[i] := by simp [rd_T70, h]

theorem without_cons (k : Int) (a : S126) (l : Q) : without k (a :: l) = if a.f1 = k then without k l else a :: without k l := by
  unfold without
  rw [List.filter_cons]
  by_cases h : a.f1 = k <;> simp [h]
theorem clr_l0 (l : Q) (key : Int) (hl : l.length ≤ 100000) : ∀ (k i : Nat) (acc : List S70), i ≤ l.length → l.length - i < k → acc.length ≤ i →
    echelonref10_Clear.l0 k (l.map cv) key acc (i : Int) = some (acc ++ (without key (l.drop i)).map cv)
  | 0, i, acc, _, h, _ => by omega
  | k + 1, i, acc, hi, hk, ha => by
    unfold echelonref10_Clear.l0
    rw [List.length_map]
    by_cases hlt : i < l.length
    · have e1 : wrap64 ((i : Int) + 1) = ((i + 1 : Nat) : Int) := by unfold wrap64; omega
      rw [if_pos (by omega), if_pos (by omega), rd_cv hlt, e1, List.drop_eq_getElem_cons hlt]
      by_cases hq : l[i].f1 = key
      · rw [if_pos (show (cv l[i]).f1 = key from hq), clr_l0 l key hl k (i + 1) acc (by omega) (by omega) (by omega), without_cons, if_pos hq]
      · rw [if_neg (show ¬ (cv l[i]).f1 = key from hq), if_pos (by omega), clr_l0 l key hl k (i + 1) _ (by omega) (by omega) (by simp; omega), without_cons, if_neg hq]
        simp only [List.map_cons, List.append_assoc, List.cons_append, List.nil_append]
    · rw [if_neg (by omega), List.drop_of_length_le (by omega)]
      simp [without]
theorem clr_ref (l : Q) (key : Int) (hl : l.length ≤ 100000) (k : Nat) (hk : l.length < k) : echelonref10_Clear.f k (l.map cv) key = some ((without key l).map cv) := by
  unfold echelonref10_Clear.f
  have := clr_l0 l key hl k 0 [] (Nat.zero_le _) (by omega) (Nat.le_refl _)
  simpa using this

theorem set_l0t (l : Q) (t key : Int) (hl : l.length ≤ 100000) : ∀ (k i : Nat) (acc : List S70), i ≤ l.length → l.length - i < k → acc.length ≤ i + 1 →
    echelonref10_Set.l0 k (l.map cv) t key acc true (i : Int) = some (acc ++ (l.drop i).map cv)
  | 0, i, acc, _, h, _ => by omega
  | k + 1, i, acc, hi, hk, ha => by
    unfold echelonref10_Set.l0
    rw [List.length_map]
    by_cases hlt : i < l.length
    · have e1 : wrap64 ((i : Int) + 1) = ((i + 1 : Nat) : Int) := by unfold wrap64; omega
      rw [if_pos (by omega), if_pos rfl, if_pos (by omega), if_pos (by omega), rd_cv hlt, e1, List.drop_eq_getElem_cons hlt, set_l0t l t key hl k (i + 1) _ (by omega) (by omega) (by simp; omega)]
      simp only [List.map_cons, List.append_assoc, List.cons_append, List.nil_append]
    · rw [if_neg (by omega), if_pos rfl, List.drop_of_length_le (by omega)]
      simp
theorem set_l0f (l : Q) (t key : Int) (hl : l.length ≤ 100000) : ∀ (k i : Nat) (acc : List S70), i ≤ l.length → l.length - i < k → acc.length ≤ i →
    echelonref10_Set.l0 k (l.map cv) t key acc false (i : Int) = some (acc ++ (ins ⟨t, key⟩ (l.drop i)).map cv)
  | 0, i, acc, _, h, _ => by omega
  | k + 1, i, acc, hi, hk, ha => by
    unfold echelonref10_Set.l0
    rw [List.length_map]
    by_cases hlt : i < l.length
    · have e1 : wrap64 ((i : Int) + 1) = ((i + 1 : Nat) : Int) := by unfold wrap64; omega
      rw [if_pos (by omega), if_neg (by decide), if_pos (by omega), rd_cv hlt, e1, List.drop_eq_getElem_cons hlt]
      have f0 : (cv l[i]).f0 = l[i].f0 := rfl
      have f1 : (cv l[i]).f1 = l[i].f1 := rfl
      rw [f0, f1]
      have eta : (⟨l[i].f0, l[i].f1⟩ : S70) = cv l[i] := rfl
      have eta2 : (⟨t, key⟩ : S70) = cv ⟨t, key⟩ := rfl
      rw [eta, eta2]
      have T := set_l0t l t key hl k (i + 1) (acc ++ [cv ⟨t, key⟩] ++ [cv l[i]]) (by omega) (by omega) (by simp; omega)
      have F := set_l0f l t key hl k (i + 1) (acc ++ [cv l[i]]) (by omega) (by omega) (by simp; omega)
      have ins1 : lt ⟨t, key⟩ l[i] → ins ⟨t, key⟩ (l[i] :: l.drop (i + 1)) = ⟨t, key⟩ :: l[i] :: l.drop (i + 1) := fun h => by
        show (if _ then _ else _) = _
        rw [if_pos h]
      have ins0 : ¬ lt ⟨t, key⟩ l[i] → ins ⟨t, key⟩ (l[i] :: l.drop (i + 1)) = l[i] :: ins ⟨t, key⟩ (l.drop (i + 1)) := fun h => by
        show (if _ then _ else _) = _
        rw [if_neg h]
      have b0 : acc.length < 8796093022208 := by omega
      have b1 : (acc ++ [cv ⟨t, key⟩]).length < 8796093022208 := by simp; omega
      by_cases h1 : l[i].f0 > t
      · rw [if_pos h1, if_pos b0, ins1 (.inl h1)]
        show (if _ then _ else _) = _
        rw [if_pos b1, T]
        simp only [List.map_cons, List.append_assoc, List.cons_append, List.nil_append]
      · rw [if_neg h1]
        by_cases h2 : l[i].f0 = t
        · rw [if_pos h2]
          by_cases h3 : l[i].f1 > key
          · rw [if_pos h3, if_pos b0, ins1 (.inr ⟨h2.symm, h3⟩)]
            show (if _ then _ else _) = _
            rw [if_pos b1, T]
            simp only [List.map_cons, List.append_assoc, List.cons_append, List.nil_append]
          · rw [if_neg h3, if_pos b0, ins0 (fun h => by rcases h with h | h; exact h1 h; exact h3 h.2), F]
            simp only [List.map_cons, List.append_assoc, List.cons_append, List.nil_append]
        · rw [if_neg h2, if_pos b0, ins0 (fun h => by rcases h with h | h; exact h1 h; exact h2 h.1.symm), F]
          simp only [List.map_cons, List.append_assoc, List.cons_append, List.nil_append]
    · rw [if_neg (by omega), if_neg (by decide), if_pos (by omega), List.drop_of_length_le (by omega)]
      simp [ins]
      rfl
theorem without_len (k : Int) (l : Q) : (without k l).length ≤ l.length := List.length_filter_le _ _
theorem set_ref (l : Q) (t key : Int) (hl : l.length ≤ 100000) (k : Nat) (hk : l.length < k) : echelonref10_Set.f k (l.map cv) t key = some ((set1 t key l).map cv) := by
  unfold echelonref10_Set.f
  rw [clr_ref l key hl k hk]
  have hw := without_len key l
  have := set_l0f (without key l) t key (by omega) k 0 [] (Nat.zero_le _) (by omega) (Nat.le_refl _)
  show echelonref10_Set.l0 k ((without key l).map cv) t key [] false 0 = _
  simpa [set1] using this
end Go.Proofs.Ytcdlccnpbhjgkaa.Ti
