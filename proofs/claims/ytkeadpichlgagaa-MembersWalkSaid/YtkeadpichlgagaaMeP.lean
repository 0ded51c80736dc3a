/- members: what a change makes is right; a list of changes; plain. -/
import Derived.Test.YtkeadpichlgagaaMeF
namespace Go.Proofs.Ytkeadpichlgagaa.Me
open Go.RowKit Go.Lib Go.Sort Go.Shelf Go.Proofs.YtkeadpichlgagaaW.PrintWords Go.Proofs.YtkeadpichlgagaaW.PrintLast Go.Proofs.YtkeadpichlgagaaW.PrintMore
open Go.Proofs.Ytkeadpichlgagaa.PMembersNext Go.Proofs.Ytkeadpichlgagaa.Mp
set_option linter.unusedVariables false
set_option linter.unusedSimpArgs false

theorem mem_putF {c x : Int} : ∀ {l : List Int}, x ∈ putF c l ↔ x = c ∨ x ∈ l
  | [] => by simp [putF]
  | y :: r => by
    unfold putF
    split
    · simp
    · rw [List.mem_cons, mem_putF, List.mem_cons]
      constructor
      · rintro (h | h | h) <;> simp [h]
      · rintro (h | h | h) <;> simp [h]
theorem putF_len {c : Int} : ∀ {l : List Int}, (putF c l).length = l.length + 1
  | [] => rfl
  | y :: r => by
    unfold putF
    split
    · rfl
    · simp [putF_len]
theorem putF_up {c : Int} : ∀ {l : List Int}, l.Pairwise (· < ·) → c ∉ l → (putF c l).Pairwise (· < ·)
  | [], _, _ => by simp [putF]
  | y :: r, h, hn => by
    unfold putF
    have h1 := List.pairwise_cons.1 h
    simp only [List.mem_cons, not_or] at hn
    split
    · rename_i hc
      refine List.pairwise_cons.2 ⟨fun z hz => ?_, h⟩
      rcases List.mem_cons.1 hz with rfl | hz
      · exact hc
      · have := h1.1 z hz; omega
    · refine List.pairwise_cons.2 ⟨fun z hz => ?_, putF_up h1.2 hn.2⟩
      rcases mem_putF.1 hz with rfl | hz
      · have := hn.1; omega
      · exact h1.1 z hz
theorem putF_ris {c : Int} {l : List Int} (h : Ris l) (h0 : 0 ≤ c) (h1 : c < 1048576) (hn : c ∉ l) : Ris (putF c l) :=
  ⟨fun x hx => by rcases mem_putF.1 hx with rfl | hx; exact ⟨h0, h1⟩; exact h.bd x hx, putF_up h.up hn⟩
theorem mem_dropF {c x : Int} {l : List Int} : x ∈ dropF l c ↔ x ∈ l ∧ x ≠ c := by
  unfold dropF
  rw [List.mem_filter]
  simp
theorem dropF_ris {c : Int} {l : List Int} (h : Ris l) : Ris (dropF l c) := ⟨fun x hx => h.bd x (mem_dropF.1 hx).1, h.up.filter _⟩
theorem dropF_lt {c : Int} {l : List Int} (h : c ∈ l) : (dropF l c).length < l.length := by
  have h1 := List.length_filter_le (fun x => !(x == c)) l
  rcases Nat.lt_or_ge (dropF l c).length l.length with h2 | h2
  · exact h2
  · have h3 := List.length_filter_eq_length_iff.1 (show (l.filter (fun x => !(x == c))).length = l.length by unfold dropF at h2; omega) c h
    simp at h3
theorem dropF_self {c : Int} {l : List Int} (h : c ∉ l) : dropF l c = l := List.filter_eq_self.2 (fun x hx => by
  have : x ≠ c := fun e => h (by rw [← e]; exact hx)
  simpa using this)
theorem ris_nodup {l : List Int} (h : Ris l) : l.Nodup := h.up.imp (fun h => by omega)
theorem Rt_next {x : S67} {d id : Int} (h : Rt x) (he : nextE x d id = 0) : Rt (nextC x d id) := by
  have hc : nextC x d id = if d = 1 then ⟨x.f0, putF id x.f1⟩ else if d = 2 then ⟨putF id x.f0, dropF x.f1 id⟩ else ⟨dropF x.f0 id, dropF x.f1 id⟩ := by
    unfold nextC; rw [he, if_neg (by decide)]
  rw [hc]
  unfold nextE at he
  split at he
  · omega
  · rename_i hb
    split at he
    · omega
    · rename_i h8
      split at he
      · omega
      · rename_i h81
        have hlen := h.len
        have i0 : 0 ≤ id := by omega
        have i1 : id < 1048576 := by omega
        by_cases h1 : d = 1
        · subst h1
          rw [if_pos rfl]
          have hn0 : id ∉ x.f0 := fun hh => h8 (.inl ⟨rfl, .inl hh⟩)
          have hn1 : id ∉ x.f1 := fun hh => h8 (.inl ⟨rfl, .inr (.inl hh)⟩)
          have hl : ¬ 9 ≤ x.f0.length + x.f1.length := fun hh => h8 (.inl ⟨rfl, .inr (.inr hh)⟩)
          exact ⟨fun y hy => by rcases mem_putF.1 hy with rfl | hy; exact hn0; exact h.ap y hy, h.ne, by show x.f0.length + (putF id x.f1).length ≤ 9; rw [putF_len]; omega, h.r0, putF_ris h.r1 i0 i1 hn1⟩
        · rw [if_neg h1]
          by_cases h2 : d = 2
          · subst h2
            rw [if_pos rfl]
            have hin : id ∈ x.f1 := by
              false_or_by_contra
              rename_i hh
              exact h8 (.inr (.inl ⟨rfl, hh⟩))
            have hn0 := h.ap id hin
            have hl := dropF_lt hin
            refine ⟨fun y hy hy2 => ?_, ?_, ?_, putF_ris h.r0 i0 i1 hn0, dropF_ris h.r1⟩
            · obtain ⟨hy1, hyn⟩ := mem_dropF.1 hy
              rcases mem_putF.1 hy2 with e | e
              · exact hyn e
              · exact h.ap y hy1 e
            · intro e
              have e2 : (putF id x.f0).length = 0 := by rw [show putF id x.f0 = [] from e]; rfl
              rw [putF_len] at e2
              omega
            · show (putF id x.f0).length + (dropF x.f1 id).length ≤ 9
              rw [putF_len]; omega
          · rw [if_neg h2]
            have h3 : d = 3 := by omega
            subst h3
            have l0 := dropF_len x.f0 id
            have l1 := dropF_len x.f1 id
            refine ⟨fun y hy hy2 => h.ap y (mem_dropF.1 hy).1 (mem_dropF.1 hy2).1, ?_, ?_, dropF_ris h.r0, dropF_ris h.r1⟩
            · intro e
              by_cases hin : id ∈ x.f0
              · have hn1 : id ∉ x.f1 := fun hh => h.ap id hh hin
                refine h81 ⟨rfl, hn1, ?_⟩
                have hall : ∀ y ∈ x.f0, y = id := fun y hy => by
                  false_or_by_contra
                  rename_i hne
                  have : y ∈ dropF x.f0 id := mem_dropF.2 ⟨hy, hne⟩
                  rw [show dropF x.f0 id = [] from e] at this
                  cases this
                have hnd := ris_nodup h.r0
                have hr : x.f0 = List.replicate x.f0.length id := List.eq_replicate_iff.2 ⟨rfl, hall⟩
                rw [hr, List.nodup_replicate] at hnd
                have : 0 < x.f0.length := List.length_pos_iff.2 h.ne
                omega
              · rw [show dropF x.f0 id = x.f0 from dropF_self hin] at e
                exact h.ne e
            · show (dropF x.f0 id).length + (dropF x.f1 id).length ≤ 9
              omega
structure S84 where
  f0 : Int
  f1 : Int
def z84 : S84 := ⟨(0 : Int), (0 : Int)⟩
def k84 : Kd S84 := Kd.iso (Kd.pair (Kd.int .i64) (Kd.int .i64)) (fun x : S84 => (x.f0, x.f1))
theorem k84_open {w : World} {x : S84} {cs : List Value} (h : k84.K w x cs) : cs = [.int .i64 x.f0, .int .i64 x.f1] := by
  obtain ⟨_, _, rfl, rfl, rfl⟩ := h
  exact rfl
theorem k84_mk (w : World) (x : S84)  : k84.K w x [.int .i64 x.f0, .int .i64 x.f1] := ⟨[.int .i64 x.f0], [.int .i64 x.f1], rfl, rfl, rfl⟩
def rd_T84 (xs : List S84) (i : Int) : S84 := xs.getD i.toNat z84
theorem at_T84 {w : World} {A : Option Addr} {n : Nat} {xs : List S84} (h : Kd.C k84 w A n xs) (i : Int) (h0 : 0 ≤ i) (h1 : i < n) : ∃ ad , A = some ad ∧ w.cell? (ad.add (i.toNat * 2)) = some (.int .i64 (rd_T84 xs i).f0) ∧ w.cell? ⟨(ad.add (i.toNat * 2)).block, (ad.add (i.toNat * 2)).off + 1, none⟩ = some (.int .i64 (rd_T84 xs i).f1) := by
  obtain ⟨ad, c, e, _, hK, hc0⟩ := Kd.C_get h z84 i h0 h1
  have hc : ∀ j u, c[j]? = some u → w.cell? (ad.add (i.toNat * 2 + j)) = some u := hc0
  obtain rfl := k84_open hK
  exact ⟨ad, e, hc 0 _ rfl, by rw [← add_field _ _ 1 (by omega)]; exact hc 1 _ rfl⟩
/-- A list of changes, or the first error. -/
def runF : S67 → List S84 → S67 × Int
  | x, [] => (x, 0)
  | x, ch :: r => if nextE x ch.f0 ch.f1 ≠ 0 then (z67, nextE x ch.f0 ch.f1) else runF (nextC x ch.f0 ch.f1) r
theorem runF_rt : ∀ {l : List S84} {x : S67}, Rt x → (runF x l).2 = 0 → Rt (runF x l).1
  | [], x, h, _ => h
  | ch :: r, x, h, he => by
    unfold runF at he ⊢
    split
    · rename_i hn
      rw [if_pos hn] at he
      exact absurd he hn
    · rename_i hn
      rw [if_neg hn] at he
      have h0 : nextE x ch.f0 ch.f1 = 0 := by omega
      exact runF_rt (Rt_next h h0) he
end Go.Proofs.Ytkeadpichlgagaa.Me
