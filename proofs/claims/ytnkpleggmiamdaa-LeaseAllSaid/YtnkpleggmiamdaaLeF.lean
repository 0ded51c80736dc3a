/- lease: what grants and frees make of a table, plain. -/
import Derived.Test.YtnkpleggmiamdaaLeE
namespace Go.Proofs.Ytnkpleggmiamdaa.Le
open Go.RowKit Go.Maps Go.Proofs.YtnkpleggmiamdaaW.PrintWords
open Go.Proofs.Ytnkpleggmiamdaa.Mp
open Go.Proofs.Ytnkpleggmiamdaa.Ke (asc)
set_option linter.unusedVariables false
set_option linter.unusedSimpArgs false

theorem chk_zero {M : Tab} {o : Int} : ∀ {l seen : List Int}, (∀ c ∈ l, rightB c o = true ∧ get M c = 0) → (seen ++ l).Nodup → chk M o seen l = 0
  | [], _, _, _ => rfl
  | c :: r, seen, h, hn => by
    have h1 := h c List.mem_cons_self
    unfold chk
    rw [if_neg (by rw [h1.1]; decide), if_neg]
    · refine chk_zero (fun x hx => h x (List.mem_cons_of_mem _ hx)) ?_
      rw [List.append_assoc]
      exact hn
    · rintro (e | e)
      · exact e h1.2
      · rw [List.nodup_append] at hn
        exact hn.2.2 c e c List.mem_cons_self rfl
theorem giveF_snoc {o : Int} : ∀ {l : List Int} {i : Nat} {M : Tab} {c : Int}, giveF o i (l ++ [c]) M = aput c (o + ((i + l.length : Nat) : Int)) (giveF o i l M)
  | [], i, M, c => rfl
  | x :: l, i, M, c => by
    show giveF o (i + 1) (l ++ [c]) (aput x (o + i) M) = _
    rw [giveF_snoc]
    rw [show i + 1 + l.length = i + (x :: l).length by simp; omega]
    rfl
theorem mem_put {k v : Int} : ∀ {M : Tab} {x : Int × Int}, x ∈ aput k v M → x = (k, v) ∨ x ∈ M
  | [], x, h => by simpa [aput] using h
  | p :: M, x, h => by
    simp only [aput] at h
    split at h
    · rcases List.mem_cons.1 h with h | h
      · exact .inl h
      · exact .inr (List.mem_cons_of_mem _ h)
    · rcases List.mem_cons.1 h with h | h
      · exact .inr (by rw [h]; exact List.mem_cons_self)
      · rcases mem_put h with h | h
        · exact .inl h
        · exact .inr (List.mem_cons_of_mem _ h)
theorem mem_del {k : Int} : ∀ {M : Tab} {x : Int × Int}, x ∈ adel k M → x ∈ M
  | [], x, h => h
  | p :: M, x, h => by
    simp only [adel] at h
    split at h
    · exact List.mem_cons_of_mem _ h
    · rcases List.mem_cons.1 h with h | h
      · rw [h]; exact List.mem_cons_self
      · exact List.mem_cons_of_mem _ (mem_del h)
def Pos (M : Tab) : Prop := ∀ x ∈ M, 1 ≤ x.2
theorem Pos.put {M : Tab} (h : Pos M) {k v : Int} (hv : 1 ≤ v) : Pos (aput k v M) := fun x hx => by
  rcases mem_put hx with rfl | hx
  · exact hv
  · exact h x hx
theorem Pos.del {M : Tab} (h : Pos M) (k : Int) : Pos (adel k M) := fun x hx => h x (mem_del hx)
theorem Pos.give {o : Int} (ho : 1 ≤ o) : ∀ {cs : List Int} {i : Nat} {M : Tab}, Pos M → Pos (giveF o i cs M)
  | [], _, _, h => h
  | c :: r, i, M, h => by
    show Pos (giveF o (i + 1) r (aput c (o + i) M))
    exact Pos.give ho (h.put (by omega))
theorem get_none {M : Tab} {k : Int} (h : k ∉ M.map (·.1)) : get M k = 0 := by unfold get; rw [alook_none_of h]; rfl
theorem get_pos {M : Tab} (h : Pos M) {k : Int} (hk : k ∈ M.map (·.1)) : 1 ≤ get M k := by
  have h1 := alook_isSome.2 hk
  obtain ⟨v, hv⟩ := Option.isSome_iff_exists.1 h1
  unfold get
  rw [hv]
  exact h _ (mem_of_alook hv)
theorem get_put_same (M : Tab) (k v : Int) : get (aput k v M) k = v := by unfold get; rw [alook_put_same]; rfl
theorem get_put_other (M : Tab) {k j : Int} (h : j ≠ k) (v : Int) : get (aput k v M) j = get M j := by unfold get; rw [alook_put_other h]
theorem get_del_same {M : Tab} (h : (M.map (·.1)).Nodup) (k : Int) : get (adel k M) k = 0 := by unfold get; rw [alook_del_same h]; rfl
theorem get_del_other (M : Tab) {k j : Int} (h : j ≠ k) : get (adel k M) j = get M j := by unfold get; rw [alook_del_other h]

theorem free_list {M : Tab} (hp : Pos M) : ∀ {ks : List Int} {M' : Tab}, ks.Nodup → (M'.map (·.1)).Nodup → (∀ k ∈ ks, k ∈ M.map (·.1) ∧ get M' k = get M k) → (M'.map (·.1)).Perm ks → freeF (ks.map (ls M)) M' = (ks.length, [])
  | [], M', _, _, _, hm => by
    have : M' = [] := by
      have := hm.length_eq
      rw [List.length_map] at this
      exact List.length_eq_zero_iff.1 this
    rw [this]
    rfl
  | k :: ks, M', hn, hn', hg, hm => by
    have hk := hg k List.mem_cons_self
    have hpos := get_pos hp hk.1
    rw [List.nodup_cons] at hn
    have ih := free_list hp (ks := ks) (M' := adel k M') hn.2 (nodup_del hn') (fun j hj => ⟨(hg j (List.mem_cons_of_mem _ hj)).1, by
      rw [get_del_other M' (show j ≠ k from fun e => hn.1 (e ▸ hj))]
      exact (hg j (List.mem_cons_of_mem _ hj)).2⟩) (by
        rw [keys_del]
        have := hm.erase k
        rwa [List.erase_cons_head] at this)
    show (if (ls M k).f1 ≠ 0 ∧ get M' (ls M k).f0 = (ls M k).f1 then ((freeF (ks.map (ls M)) (adel (ls M k).f0 M')).1 + 1, (freeF (ks.map (ls M)) (adel (ls M k).f0 M')).2) else _) = _
    have e0 : (ls M k).f0 = k := rfl
    have e1 : (ls M k).f1 = get M k := rfl
    rw [e0, e1, if_pos ⟨by omega, hk.2⟩, ih]
    rfl
theorem asc_perm (l : List Int) : (asc l).Perm l := List.mergeSort_perm _ _
theorem free_all {M : Tab} (h : TabOk M) (hp : Pos M) : freeF (allF M) M = (M.length, []) := by
  unfold allF
  have hpm := asc_perm (M.map (·.1))
  rw [free_list hp (hpm.nodup_iff.2 h.nd) h.nd (fun k hk => ⟨hpm.mem_iff.1 hk, rfl⟩) hpm.symm, hpm.length_eq, List.length_map]

/-- The clusters 0, 3, 6, .. -/
def csF (n : Nat) : List Int := (List.range n).map (fun i : Nat => 3 * (i : Int))
theorem csF_succ (n : Nat) : csF (n + 1) = csF n ++ [3 * (n : Int)] := by simp [csF, List.range_succ]
theorem csF_len (n : Nat) : (csF n).length = n := by simp [csF]
theorem mem_csF {n : Nat} {c : Int} : c ∈ csF n ↔ ∃ i : Nat, i < n ∧ c = 3 * (i : Int) := by simp [csF, eq_comm]
theorem csF_nodup (n : Nat) : (csF n).Nodup := by
  unfold csF
  exact List.pairwise_map.2 (List.nodup_range.imp (fun h e => h (by omega)))
def TN (o : Int) (n : Nat) : Tab := giveF o 0 (csF n) []
theorem TN_succ (o : Int) (n : Nat) : TN o (n + 1) = aput (3 * (n : Int)) (o + n) (TN o n) := by
  unfold TN
  rw [csF_succ, giveF_snoc, csF_len, Nat.zero_add]
theorem TN_keys (o : Int) : ∀ n, (TN o n).map (·.1) = csF n
  | 0 => rfl
  | n + 1 => by
    rw [TN_succ, keys_put, TN_keys o n, if_neg, ← csF_succ]
    intro h
    obtain ⟨i, hi, e⟩ := mem_csF.1 h
    omega
theorem TN_len (o : Int) (n : Nat) : (TN o n).length = n := by
  have := congrArg List.length (TN_keys o n)
  rwa [List.length_map, csF_len] at this
theorem TN_get (o : Int) : ∀ n (j : Nat), j < n → get (TN o n) (3 * (j : Int)) = o + j
  | 0, j, h => by omega
  | n + 1, j, h => by
    rw [TN_succ]
    by_cases e : j = n
    · rw [e, get_put_same]
    · rw [get_put_other _ (by omega), TN_get o n j (by omega)]
theorem rightB_cs {n : Nat} {o : Int} (hn : n ≤ 201) (ho : 1 ≤ o ∧ o ≤ 2000) {c : Int} (h : c ∈ csF n) : rightB c o = true := by
  obtain ⟨i, hi, rfl⟩ := mem_csF.1 h
  exact decide_eq_true (by omega)
theorem grant_cs {n m : Nat} {o : Int} (hm : m ≤ 201) (ho : 1 ≤ o ∧ o ≤ 2000) : grantE n [] o (csF m) = if (n : Int) < (m : Int) then 121 else 0 := by
  unfold grantE
  rw [chk_zero (l := csF m) (seen := []) (fun c hc => ⟨rightB_cs hm ho hc, rfl⟩) (csF_nodup m), if_neg (by
    rintro (h | h)
    · have : rightB 0 o = true := decide_eq_true (by omega)
      rw [this] at h
      cases h
    · rw [csF_len] at h; omega), if_neg (by decide), csF_len]
  simp
theorem grant_one {n : Nat} {M : Tab} {o c : Int} (hc : 0 ≤ c ∧ c < 1048576) (ho : 1 ≤ o ∧ o ≤ 2000) (hg : get M c = 0) : grantE n M o [c] = if (n : Int) - (M.length : Int) < 1 then 121 else 0 := by
  have hr : rightB c o = true := decide_eq_true (by omega)
  unfold grantE
  rw [chk_zero (l := [c]) (seen := []) (fun x hx => by
    have e : x = c := by simpa using hx
    rw [e]
    exact ⟨hr, hg⟩) (by simp), if_neg (by
    rintro (h | h)
    · have : rightB 0 o = true := decide_eq_true (by omega)
      rw [this] at h
      cases h
    · simp at h; omega), if_neg (by decide)]
  simp
end Go.Proofs.Ytnkpleggmiamdaa.Le
