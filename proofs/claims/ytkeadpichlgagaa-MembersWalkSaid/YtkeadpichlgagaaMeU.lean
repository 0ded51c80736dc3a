/- MembersWalk: its closure, walked; what the way asks, plain. -/
import Derived.Test.YtkeadpichlgagaaMeM
namespace Go.Proofs.Ytkeadpichlgagaa.Me
open Go.RowKit Go.Lib Go.Sort Go.Shelf Go.Proofs.YtkeadpichlgagaaW.PrintWords Go.Proofs.YtkeadpichlgagaaW.PrintLast Go.Proofs.YtkeadpichlgagaaW.PrintMore
open Go.Proofs.Ytkeadpichlgagaa.PMembersNext Go.Proofs.Ytkeadpichlgagaa.Mp
set_option linter.unusedVariables false
set_option linter.unusedSimpArgs false
set_option linter.unnecessarySimpa false

/-! ### Plain -/
theorem nextC_of {x : S67} {d id : Int} (he : nextE x d id = 0) : nextC x d id = if d = 1 then ⟨x.f0, putF id x.f1⟩ else if d = 2 then ⟨putF id x.f0, dropF x.f1 id⟩ else ⟨dropF x.f0 id, dropF x.f1 id⟩ := by
  unfold nextC; rw [he, if_neg (by decide)]
theorem add_ok {x : S67} {q : Int} (hq : 0 ≤ q ∧ q < 1048576) (h0 : q ∉ x.f0) (h1 : q ∉ x.f1) (hl : x.f0.length + x.f1.length ≤ 8) : nextE x 1 q = 0 := by
  unfold nextE
  rw [if_neg (by omega), if_neg, if_neg (fun h => absurd h.1 (by decide))]
  rintro (⟨_, h | h | h⟩ | ⟨h, _⟩ | ⟨h, _⟩)
  · exact h0 h
  · exact h1 h
  · omega
  · exact absurd h (by decide)
  · exact absurd h (by decide)
theorem promote_ok {x : S67} {q : Int} (hq : 0 ≤ q ∧ q < 1048576) (h1 : q ∈ x.f1) : nextE x 2 q = 0 := by
  unfold nextE
  rw [if_neg (by omega), if_neg, if_neg (fun h => absurd h.1 (by decide))]
  rintro (⟨h, _⟩ | ⟨_, h⟩ | ⟨h, _⟩)
  · exact absurd h (by decide)
  · exact h h1
  · exact absurd h (by decide)
theorem remove_ok {x : S67} {q : Int} (hq : 0 ≤ q ∧ q < 1048576) (hm : q ∈ x.f0 ∨ q ∈ x.f1) (h2 : q ∉ x.f1 → 2 ≤ x.f0.length) : nextE x 3 q = 0 := by
  unfold nextE
  rw [if_neg (by omega), if_neg, if_neg]
  · rintro ⟨_, h, h'⟩
    have := h2 h
    omega
  · rintro (⟨h, _⟩ | ⟨h, _⟩ | ⟨_, h⟩)
    · exact absurd h (by decide)
    · exact absurd h (by decide)
    · rcases hm with h' | h'
      · exact h.1 h'
      · exact h.2 h'
theorem Rt.bd {x : S67} (h : Rt x) {q : Int} (hq : q ∈ x.f0 ∨ q ∈ x.f1) : 0 ≤ q ∧ q < 1048576 := by
  rcases hq with hq | hq
  · exact h.r0.bd q hq
  · exact h.r1.bd q hq
/-- What one holds on to. -/
structure Hold (a : S67) (k : Int) (y : S67) (i : Nat) : Prop where
  rt : Rt y
  vt : k ∈ y.f0
  only : ∀ q, q ∈ y.f0 ∨ q ∈ y.f1 → q ≠ k → q ∈ (a.f0 ++ a.f1).drop i
theorem Hold.two {a y : S67} {k : Int} {i : Nat} (h : Hold a k y i) {q : Int} (hq : q ∈ y.f0) (hk : q ≠ k) : 2 ≤ y.f0.length := by
  have h1 := h.vt
  rcases hy : y.f0 with _ | ⟨u, _ | ⟨v, l⟩⟩
  · rw [hy] at hq; cases hq
  · rw [hy] at hq h1
    simp at hq h1
    exact absurd (hq.trans h1.symm) hk
  · simp
theorem Hold.go {a y : S67} {k : Int} {i : Nat} (h : Hold a k y i) {q : Int} (hi : (a.f0 ++ a.f1)[i]? = some q) (hq : q ∈ y.f0 ∨ q ∈ y.f1) (hk : q ≠ k) : nextE y 3 q = 0 ∧ Hold a k (nextC y 3 q) (i + 1) := by
  have he : nextE y 3 q = 0 := remove_ok (h.rt.bd hq) hq (fun hn => h.two (hq.resolve_right hn) hk)
  refine ⟨he, Rt_next h.rt he, ?_, ?_⟩
  · rw [nextC_of he]
    exact mem_dropF.2 ⟨h.vt, fun e => hk e.symm⟩
  · rw [nextC_of he]
    intro r hr hrk
    have hr' : (r ∈ y.f0 ∨ r ∈ y.f1) ∧ r ≠ q := by
      rcases hr with hr | hr
      · exact ⟨.inl (mem_dropF.1 hr).1, (mem_dropF.1 hr).2⟩
      · exact ⟨.inr (mem_dropF.1 hr).1, (mem_dropF.1 hr).2⟩
    have hm := h.only r hr'.1 hrk
    have hlt := (List.getElem?_eq_some_iff.1 hi).1
    rw [List.drop_eq_getElem_cons hlt] at hm
    rcases List.mem_cons.1 hm with e | hm
    · have := (List.getElem?_eq_some_iff.1 hi).2
      exact absurd (e.trans this) hr'.2
    · exact hm
theorem Hold.stay {a y : S67} {k : Int} {i : Nat} (h : Hold a k y i) {q : Int} (hi : (a.f0 ++ a.f1)[i]? = some q) (hn : ¬ ((q ∈ y.f0 ∨ q ∈ y.f1) ∧ q ≠ k)) : Hold a k y (i + 1) := by
  refine ⟨h.rt, h.vt, fun r hr hrk => ?_⟩
  have hm := h.only r hr hrk
  have hlt := (List.getElem?_eq_some_iff.1 hi).1
  rw [List.drop_eq_getElem_cons hlt] at hm
  rcases List.mem_cons.1 hm with e | hm
  · have e2 := (List.getElem?_eq_some_iff.1 hi).2
    exact absurd ⟨by rw [← e2, ← e]; exact hr, by rw [← e2, ← e]; exact hrk⟩ hn
  · exact hm
theorem one_of {k : Int} : ∀ {l : List Int}, l.Pairwise (· < ·) → k ∈ l → (∀ q ∈ l, q = k) → l = [k]
  | [], _, h, _ => by cases h
  | [x], _, _, h => by rw [h x List.mem_cons_self]
  | x :: y :: l, hp, _, h => by
    have h1 := (List.pairwise_cons.1 hp).1 y List.mem_cons_self
    rw [h x List.mem_cons_self, h y (List.mem_cons_of_mem _ List.mem_cons_self)] at h1
    omega
theorem Hold.end_ {a y : S67} {k : Int} {i : Nat} (h : Hold a k y i) (hi : (a.f0 ++ a.f1).length ≤ i) : y = ⟨[k], []⟩ := by
  have hall : ∀ q, q ∈ y.f0 ∨ q ∈ y.f1 → q = k := fun q hq => by
    false_or_by_contra
    rename_i hk
    have := h.only q hq hk
    rw [List.drop_of_length_le hi] at this
    cases this
  have e0 : y.f0 = [k] := one_of h.rt.r0.up h.vt (fun q hq => hall q (.inl hq))
  have e1 : y.f1 = [] := by
    rcases hy : y.f1 with _ | ⟨u, l⟩
    · rfl
    · have h1 : u ∈ y.f1 := by rw [hy]; exact List.mem_cons_self
      have := hall u (.inr h1)
      rw [this] at h1
      exact absurd h.vt (h.rt.ap k h1)
  cases y
  simp only at e0 e1
  rw [e0, e1]
/-- The first steps: room is made, the one that stays comes in, votes. -/
theorem room {a : S67} {k : Int} (h : Rt a) (hk : k ∉ a.f0 ++ a.f1) (h9 : 9 ≤ (a.f0 ++ a.f1).length) {q : Int} (hq : (a.f0 ++ a.f1)[(a.f0 ++ a.f1).length - 1]? = some q) :
    ¬ (a.f1.length = 0 ∧ a.f0.length = 1) ∧ nextE a 3 q = 0 ∧ Rt (nextC a 3 q) ∧ (nextC a 3 q).f0.length + (nextC a 3 q).f1.length ≤ 8 ∧ (∀ r, r ∈ (nextC a 3 q).f0 ∨ r ∈ (nextC a 3 q).f1 → r ∈ a.f0 ++ a.f1) := by
  have hl := h.len
  have hlt : (a.f0 ++ a.f1).length = a.f0.length + a.f1.length := List.length_append
  have hqm : q ∈ a.f0 ++ a.f1 := List.mem_of_getElem? hq
  have hqm' := List.mem_append.1 hqm
  have he : nextE a 3 q = 0 := remove_ok (h.bd hqm') hqm' (fun hn => by
    rcases Nat.eq_zero_or_pos a.f1.length with h0 | h0
    · omega
    · exfalso
      rw [List.getElem?_append_right (by omega)] at hq
      exact hn (List.mem_of_getElem? hq))
  have hc := nextC_of he
  refine ⟨by omega, he, Rt_next h he, ?_, ?_⟩
  · rw [hc]
    show (dropF a.f0 q).length + (dropF a.f1 q).length ≤ 8
    have l0 := dropF_len a.f0 q
    have l1 := dropF_len a.f1 q
    rcases hqm' with hm | hm
    · have := dropF_lt hm; omega
    · have := dropF_lt hm; omega
  · rw [hc]
    rintro r (hr | hr)
    · exact List.mem_append.2 (.inl (mem_dropF.1 hr).1)
    · exact List.mem_append.2 (.inr (mem_dropF.1 hr).1)
structure Near (a : S67) (k : Int) (y : S67) : Prop where
  rt : Rt y
  only : ∀ q, q ∈ y.f0 ∨ q ∈ y.f1 → q ≠ k → q ∈ a.f0 ++ a.f1
theorem Near.add {a y : S67} {k : Int} (h : Near a k y) (hb : 0 ≤ k ∧ k < 1048576) (hl : y.f0.length + y.f1.length ≤ 8) (hk : ¬ (k ∈ y.f0 ∨ k ∈ y.f1)) : nextE y 1 k = 0 ∧ Near a k (nextC y 1 k) ∧ k ∈ (nextC y 1 k).f1 ∧ k ∉ (nextC y 1 k).f0 := by
  simp only [not_or] at hk
  have he := add_ok hb hk.1 hk.2 hl
  have hc : nextC y 1 k = ⟨y.f0, putF k y.f1⟩ := by rw [nextC_of he, if_pos rfl]
  refine ⟨he, ⟨Rt_next h.rt he, ?_⟩, ?_, ?_⟩
  · rw [hc]
    rintro q (hq | hq) hne
    · exact h.only q (.inl hq) hne
    · rcases mem_putF.1 hq with e | hq
      · exact absurd e hne
      · exact h.only q (.inr hq) hne
  · rw [hc]; exact mem_putF.2 (.inl rfl)
  · rw [hc]; exact hk.1
theorem Near.vote {a y : S67} {k : Int} (h : Near a k y) (hk : k ∈ y.f1) : nextE y 2 k = 0 ∧ Hold a k (nextC y 2 k) 0 := by
  have he := promote_ok (h.rt.bd (.inr hk)) hk
  have hc : nextC y 2 k = ⟨putF k y.f0, dropF y.f1 k⟩ := by rw [nextC_of he, if_neg (by decide), if_pos rfl]
  refine ⟨he, Rt_next h.rt he, ?_, ?_⟩
  · rw [hc]; exact mem_putF.2 (.inl rfl)
  · rw [hc, List.drop_zero]
    rintro q (hq | hq) hne
    · rcases mem_putF.1 hq with e | hq
      · exact absurd e hne
      · exact h.only q (.inl hq) hne
    · exact h.only q (.inr (mem_dropF.1 hq).1) hne
theorem Near.hold {a y : S67} {k : Int} (h : Near a k y) (hk : k ∈ y.f0) : Hold a k y 0 := ⟨h.rt, hk, fun q hq hne => by rw [List.drop_zero]; exact h.only q hq hne⟩
theorem put_end {q : Int} : ∀ {l : List Int}, (∀ x ∈ l, x < q) → putF q l = l ++ [q]
  | [], _ => rfl
  | x :: l, h => by
    unfold putF
    have := h x List.mem_cons_self
    rw [if_neg (by omega), put_end (fun y hy => h y (List.mem_cons_of_mem _ hy))]
    rfl
theorem rising_lt {l : List Int} (h : l.Pairwise (· < ·)) {i : Nat} (hi : i < l.length) : ∀ x ∈ l.take i, x < l[i] := fun x hx => by
  obtain ⟨j, hj, rfl⟩ := List.getElem_of_mem hx
  rw [List.getElem_take]
  exact List.pairwise_iff_getElem.1 h j i _ _ (by simp at hj; omega)
theorem drop_only {q : Int} : dropF [q] q = [] := by simp [dropF]
/-- A voter more, in two steps. -/
theorem voter {b : S67} (h : Rt b) {i : Nat} (hi : i < b.f0.length) : nextE ⟨b.f0.take i, []⟩ 1 b.f0[i] = 0 ∧ nextC ⟨b.f0.take i, []⟩ 1 b.f0[i] = ⟨b.f0.take i, [b.f0[i]]⟩ ∧ nextE ⟨b.f0.take i, [b.f0[i]]⟩ 2 b.f0[i] = 0 ∧ nextC ⟨b.f0.take i, [b.f0[i]]⟩ 2 b.f0[i] = ⟨b.f0.take (i + 1), []⟩ := by
  have hbd := h.bd (.inl (List.getElem_mem hi))
  have hr := rising_lt h.r0.up hi
  have hl := h.len
  have e1 : nextE ⟨b.f0.take i, []⟩ 1 b.f0[i] = 0 := add_ok hbd (fun hm => by have := hr _ hm; omega) (by simp) (by simp; omega)
  have e2 : nextE ⟨b.f0.take i, [b.f0[i]]⟩ 2 b.f0[i] = 0 := promote_ok hbd (by simp)
  refine ⟨e1, ?_, e2, ?_⟩
  · rw [nextC_of e1, if_pos rfl]; rfl
  · rw [nextC_of e2, if_neg (by decide), if_pos rfl, put_end hr, List.take_succ_eq_append_getElem hi, drop_only]
/-- A learner more. -/
theorem learner {b : S67} (h : Rt b) {i : Nat} (hi : i < b.f1.length) : nextE ⟨b.f0, b.f1.take i⟩ 1 b.f1[i] = 0 ∧ nextC ⟨b.f0, b.f1.take i⟩ 1 b.f1[i] = ⟨b.f0, b.f1.take (i + 1)⟩ := by
  have hbd := h.bd (.inr (List.getElem_mem hi))
  have hr := rising_lt h.r1.up hi
  have hl := h.len
  have e1 : nextE ⟨b.f0, b.f1.take i⟩ 1 b.f1[i] = 0 := add_ok hbd (h.ap _ (List.getElem_mem hi)) (fun hm => by have := hr _ hm; omega) (by simp; omega)
  refine ⟨e1, ?_⟩
  rw [nextC_of e1, if_pos rfl, put_end hr, List.take_succ_eq_append_getElem hi]
theorem Rt.part {b : S67} (h : Rt b) {i : Nat} (hi : 0 < i) : Rt ⟨b.f0.take i, []⟩ := by
  have hl := h.len
  have hn := h.ne
  refine ⟨fun y hy => (by cases hy), ?_, by simp; omega, h.r0.take i, Ris.nil⟩
  intro e
  have : (b.f0.take i).length = 0 := by rw [show b.f0.take i = [] from e]; rfl
  rw [List.length_take] at this
  have : 0 < b.f0.length := List.length_pos_iff.2 hn
  omega
theorem Rt.part1 {b : S67} (h : Rt b) {i : Nat} (hi : 0 < i) (hlt : i < b.f0.length) : Rt ⟨b.f0.take i, [b.f0[i]]⟩ := by
  obtain ⟨e1, e2, _⟩ := voter h hlt
  rw [← e2]
  exact Rt_next (h.part hi) e1
theorem Rt.part2 {b : S67} (h : Rt b) (i : Nat) : Rt ⟨b.f0, b.f1.take i⟩ := by
  have hl := h.len
  exact ⟨fun y hy => h.ap y (List.mem_of_mem_take hy), h.ne, by simp; omega, h.r0, h.r1.take i⟩

/-! ### The closure -/
/-- The block b alone has turned; it holds two slices. -/
theorem C_fr {w w' : World} {A : Option Addr} {xs : List Int} {b : Nat} {T : TypeId} {s0 s1 : Value} (h : (Kd.int .i64).C w A xs.length xs) (hb : w.heap[b]? = some (.cells #[s0, s1] T (0, 0))) (h0 : ∀ n, s0 ≠ .int .i64 n) (h1 : ∀ n, s1 ≠ .int .i64 n) (hf : Fr1 w w' b) : (Kd.int .i64).C w' A xs.length xs := by
  by_cases hx : xs.length = 0
  · obtain rfl := List.length_eq_zero_iff.1 hx
    exact ⟨rfl, by simp, fun h => by simp at h⟩
  · refine C_move (d := Kd.int .i64) h (fun k hk hlt => ?_)
    refine hf.block k hlt ?_
    intro e
    show False
    cases A with
    | none => cases hk
    | some ad =>
      have hc := C_cells h rfl 0 (by omega)
      have hkb : ad.block = b := by
        have : ad.block = k := by simpa [AtB] using hk
        rw [this]; exact e
      have hs := spot_none hc
      obtain ⟨bb, off, sp⟩ := ad
      simp only at hkb
      subst hkb
      have hsp : sp = none := hs
      subst hsp
      rw [Addr.add_lit, blk_cell hb] at hc
      rcases hoff : off + 0 with _ | _ | m
      · rw [hoff] at hc; exact h0 _ (by simpa using hc)
      · rw [hoff] at hc; exact h1 _ (by simpa using hc)
      · rw [hoff] at hc; simp at hc
theorem C_keep {w w' : World} {A B0 B1 : Option Addr} {xs : List Int} {b n0 n1 d0 d1 : Nat} (h : (Kd.int .i64).C w A xs.length xs) (hb : w.heap[b]? = some (.cells #[.slice B0 n0 d0, .slice B1 n1 d1] 67 (0, 0))) (hf : Fr1 w w' b) : (Kd.int .i64).C w' A xs.length xs :=
  C_fr h hb (fun n h => by cases h) (fun n h => by cases h) hf
def StepQ (w : World) (b : Nat) (y : S67) (e : Ending) (w' : World) : Prop := e = .returned (.bool true) ∧ Fr1 w w' b ∧ ∃ C0 k0 C1 k1, w'.heap[b]? = some (.cells #[.slice C0 y.f0.length k0, .slice C1 y.f1.length k1] 67 (0, 0)) ∧ CfR w' y C0 k0 C1 k1
theorem runF_one {y : S67} {d id : Int} (h : Rt y) (he : nextE y d id = 0) : nxF y [⟨d, id⟩] = (nextC y d id, 0) := by
  unfold nxF
  rw [if_pos (rtB_iff.2 h)]
  unfold runF
  rw [if_neg (by simpa using he)]
  rfl
set_option maxHeartbeats 4000000 in
set_option maxRecDepth 100000 in
theorem step_calls (b : Nat) (B0 B1 : Option Addr) (d0 d1 : Nat) (y : S67) (d id : Int) (w : World) (hb : w.heap[b]? = some (.cells #[.slice B0 y.f0.length d0, .slice B1 y.f1.length d1] 67 (0, 0))) (hy : CfR w y B0 d0 B1 d1) (hr : Rt y) (he : nextE y d id = 0) :
    Calls Try.prog 63 #[.int .i64 d, .int .i64 id, .pointer (some ⟨b, 0, none⟩)] w (StepQ w b (nextC y d id)) := by
  have hu67 := Try.underlying67
  have hu84 := Try.underlying84
  have HY := Aside0.mk hy
  have HR := Aside0.mk hr
  have HE := Aside0.mk he
  have K2 := Aside0.mk hb
  have hlen := hr.len
  have HRN := Aside0.mk (Rt_next hr he)
  clear hy hr he hb
  go_enter Try.func63, Try.ntmps63
  have HB : Aside0 (Below w.heap.size w w) := ⟨Below.refl _ _⟩
  have K2c0 := (blk_cell K2.out 0).trans (show _ = some (.slice B0 y.f0.length d0) from rfl)
  have K2c1 := (blk_cell K2.out 1).trans (show _ = some (.slice B1 y.f1.length d1) from rfl)
  go_wp2_with fail
  have KB : Aside0 ((w.alloc (Obj.cells #[.int .i64 d, .int .i64 id] 84)).heap[w.heap.size]? = some (.cells #[.int .i64 d, .int .i64 id] 84 (0, 0))) := ⟨grown_new _ _⟩
  have HBA : Below w.heap.size w (w.alloc (Obj.cells #[.int .i64 d, .int .i64 id] 84)) := (Below.refl _ w).alloc (Nat.le_refl _) _
  clear K2c0 K2c1
  replace K2 := Aside0.mk (blk_below K2.out HBA)
  replace HB := Aside0.mk (HB.out.trans (HBA.mono HB.out.size))
  clear HBA
  refine (Next_calls B0 B1 d0 d1 y (some ⟨w.heap.size, 0, none⟩) 1 [⟨d, id⟩] (w.alloc (Obj.cells #[.int .i64 d, .int .i64 id] 84)) (HY.out.below HB.out) (C_ch [⟨d, id⟩] _ KB.out (fun j p hj => by
    rcases j with _ | j
    · simp at hj; subst hj; exact ⟨rfl, rfl⟩
    · simp at hj) (by simp)) (by omega) (by omega)).mono ?_
  rw [runF_one HR.out HE.out]
  rintro e w5 ⟨v, rfl, ⟨G0, k0, G1, k1, rfl, hgot⟩, hb⟩
  have HGOT := Aside0.mk hgot
  clear KB
  replace K2 := Aside0.mk (blk_below K2.out hb)
  replace HB := Aside0.mk (HB.out.trans (hb.mono HB.out.size))
  clear hb
  clear hgot
  generalize hz : nextC y d id = z at *
  have HZ := Aside0.mk hz
  clear hz
  have hl0 := HRN.out.len
  go_upto_region 2 with fail
  obtain ⟨b6, hb6⟩ : ∃ b, w5.heap.size = b := ⟨_, rfl⟩
  have HBr : Below w5.heap.size w5 (w5.alloc (Obj.cells #[.slice G0 z.f0.length k0, .slice G1 z.f1.length k1] 67)) := (Below.refl _ w5).alloc (Nat.le_refl _) _
  have K6 := Aside0.mk (grown_new (w := w5) #[.slice G0 z.f0.length k0, .slice G1 z.f1.length k1] 67)
  rw [hb6] at K6 ⊢
  clear hb6
  replace K2 := Aside0.mk (blk_below K2.out HBr)
  replace HGOT := Aside0.mk (HGOT.out.below HBr)
  replace HB := Aside0.mk (HB.out.trans (HBr.mono HB.out.size))
  clear HBr
  generalize w5.alloc (Obj.cells #[.slice G0 z.f0.length k0, .slice G1 z.f1.length k1] 67) = w6 at *
  have K6c0 := (blk_cell K6.out 0).trans (show _ = some (.slice G0 z.f0.length k0) from rfl)
  have K6c1 := (blk_cell K6.out 1).trans (show _ = some (.slice G1 z.f1.length k1) from rfl)
  go_wp2_with fail
  have KB : Aside0 ((w6.alloc (Obj.cells #[.slice G0 z.f0.length k0, .slice G1 z.f1.length k1] 67)).heap[w6.heap.size]? = some (.cells #[.slice G0 z.f0.length k0, .slice G1 z.f1.length k1] 67 (0, 0))) := ⟨grown_new _ _⟩
  have HBA : Below w6.heap.size w6 (w6.alloc (Obj.cells #[.slice G0 z.f0.length k0, .slice G1 z.f1.length k1] 67)) := (Below.refl _ w6).alloc (Nat.le_refl _) _
  clear K6c0 K6c1
  replace K2 := Aside0.mk (blk_below K2.out HBA)
  replace K6 := Aside0.mk (blk_below K6.out HBA)
  replace HGOT := Aside0.mk (HGOT.out.below HBA)
  replace HB := Aside0.mk (HB.out.trans (HBA.mono HB.out.size))
  clear HBA
  refine (right_calls (some ⟨w6.heap.size, 0, none⟩) 1 [z] (w6.alloc (Obj.cells #[.slice G0 z.f0.length k0, .slice G1 z.f1.length k1] 67)) (C_conf1 z KB.out HGOT.out.l0 HGOT.out.g0 HGOT.out.l1 HGOT.out.g1) (fun q hq => by simp at hq; subst hq; omega)).mono ?_
  rintro e w8 ⟨rfl, hb⟩
  rw [show [z].all rtB = true from by simp [rtB_iff.2 HRN.out]]
  clear KB
  replace K2 := Aside0.mk (blk_below K2.out hb)
  replace K6 := Aside0.mk (blk_below K6.out hb)
  replace HGOT := Aside0.mk (HGOT.out.below hb)
  replace HB := Aside0.mk (HB.out.trans (hb.mono HB.out.size))
  clear hb
  have K6c0 := (blk_cell K6.out 0).trans (show _ = some (.slice G0 z.f0.length k0) from rfl)
  have K6c1 := (blk_cell K6.out 1).trans (show _ = some (.slice G1 z.f1.length k1) from rfl)
  have K2c0 := (blk_cell K2.out 0).trans (show _ = some (.slice B0 y.f0.length d0) from rfl)
  have K2f0 := blk_frozen K2.out 0
  have K2c1 := (blk_cell K2.out 1).trans (show _ = some (.slice B1 y.f1.length d1) from rfl)
  have K2f1 := blk_frozen K2.out 1
  go_wp2_with fail
  go_ret
  refine ⟨rfl, (Fr1.set (Fr1.set (Fr1.of_below b HB.out) 0 _) 1 _), G0, k0, G1, k1, blk_put (cs := #[.slice G0 z.f0.length k0, .slice B1 y.f1.length d1]) (blk_put (cs := #[.slice B0 y.f0.length d0, .slice B1 y.f1.length d1]) K2.out 0 _ rfl) 1 _ rfl, ?_⟩
  exact (HGOT.out.set K2.out (fun n h => by cases h) (fun n h => by cases h) 0 _).set (blk_put (cs := #[.slice B0 y.f0.length d0, .slice B1 y.f1.length d1]) K2.out 0 (.slice G0 z.f0.length k0) rfl) (fun n h => by cases h) (fun n h => by cases h) 1 _
end Go.Proofs.Ytkeadpichlgagaa.Me
