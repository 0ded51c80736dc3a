/- WaveBehind, walked. -/
import Derived.Test.YtkeadpichlgagaaWrA
import Derived.Test.YtkeadpichlgagaaWtA
import Derived.BigQuiet
namespace Go.Proofs.Ytkeadpichlgagaa.Wv
open Go.RowKit Go.Maps Go.Proofs.YtkeadpichlgagaaW.PrintWords Go.Proofs.YtkeadpichlgagaaW.PrintLast Go.Proofs.YtkeadpichlgagaaW.PrintMore
open Go.Proofs.Ytkeadpichlgagaa.PWaveReady Go.Proofs.Ytkeadpichlgagaa.Mp
set_option linter.unusedVariables false
set_option linter.unusedSimpArgs false
set_option linter.unnecessarySimpa false

theorem bmodB (y m : Int) (h1 : 0 < m) (h2 : m ≤ 1000000) : ∃ t, (wrap64 (y.tmod m + m)).tmod m = t ∧ 0 ≤ t ∧ t < m := by
  have a := Int.tmod_lt_of_pos y h1
  have b := Int.lt_tmod_of_pos y h1
  have e : wrap64 (y.tmod m + m) = y.tmod m + m := by unfold wrap64; omega
  exact ⟨_, rfl, by rw [e]; exact Int.tmod_nonneg _ (by omega), by rw [e]; exact Int.tmod_lt_of_pos _ h1⟩
theorem ordRB {G : Gr} (h : ordE G = 0) : (ordR G).1 = ordA G := by unfold ordR; rw [if_pos h]
theorem Ri_cell {e g N c B : Nat} {ok : Nat → Prop} {w : World} {xs : List Int} (h : (Kd.int .i64).R e w B ok (.slice (some ⟨g, 0, none⟩) N c) xs) {i : Nat} (hi : i < N) : w.cell? ⟨g, i, none⟩ = some (.int .i64 (xs.getD i 0)) ∧ w.frozen? ⟨g, i, none⟩ = false := by
  obtain ⟨rfl, _, _⟩ := Kd.R_reads' h
  have := Kd.R_cell 0 h (i : Int) (by omega) (by omega)
  rwa [Int.toNat_natCast] at this
theorem Ri_put {e g N c B : Nat} {ok : Nat → Prop} {w : World} {xs : List Int} (h : (Kd.int .i64).R e w B ok (.slice (some ⟨g, 0, none⟩) N c) xs) (i : Nat) (x : Int) : (Kd.int .i64).R e (w.setCell ⟨g, i, none⟩ (.int .i64 x)) B ok (.slice (some ⟨g, 0, none⟩) N c) (xs.set i x) := by
  obtain ⟨rfl, _, _⟩ := Kd.R_reads' h
  have := (Kd.R_put h (i : Int) x).1
  rwa [Int.toNat_natCast] at this

/-- The places of the order's first nodes. -/
structure Pl (G : Gr) (i : Nat) (a : List Int) : Prop where
  len : a.length = G.length
  at' : ∀ j, ∀ hj : j < (ordA G).length, j < i → a.getD ((ordA G)[j]).toNat 0 = j
theorem Pl.next {G : Gr} {i : Nat} {a : List Int} (h : Pl G i a) (hi : i < (ordA G).length) : Pl G (i + 1) (a.set ((ordA G)[i]).toNat i) := by
  refine ⟨by rw [List.length_set]; exact h.len, fun j hj hji => ?_⟩
  have h1 := (ordA_st G).inn _ (List.getElem_mem hi)
  have h2 := (ordA_st G).inn _ (List.getElem_mem hj)
  rw [List.getD_eq_getElem?_getD, List.getElem?_set]
  by_cases hij : j = i
  · subst hij
    rw [if_pos rfl, if_pos (by rw [h.len]; omega)]
    rfl
  · rw [if_neg (fun e => hij (ordA_inj hj hi (by omega))), ← List.getD_eq_getElem?_getD]
    exact h.at' j hj (by omega)
/-- The first marks: all but the one. -/
def mk1 (N k i : Nat) : List Bool := (List.range N).map (fun j => decide (j < i) && decide (j ≠ k))
theorem mk1_zero (N k : Nat) : mk1 N k 0 = List.replicate N false := by
  refine List.ext_getElem (by simp [mk1]) (fun j h1 h2 => ?_)
  simp [mk1]
theorem mk1_len (N k i : Nat) : (mk1 N k i).length = N := by simp [mk1]
theorem mk1_next (N k i : Nat) : (mk1 N k i).set i (decide (i ≠ k)) = mk1 N k (i + 1) := by
  refine List.ext_getElem (by simp [mk1]) (fun j h1 h2 => ?_)
  rw [List.getElem_set]
  by_cases h : i = j
  · subst h; simp [mk1]
  · rw [if_neg h]
    have e : decide (j < i) = decide (j < i + 1) := by rw [Bool.eq_iff_iff, decide_eq_true_iff, decide_eq_true_iff]; omega
    simp [mk1, e]
/-- Then without those behind. -/
structure Mk (G : Gr) (k : Nat) (D : List Int) (q : List Bool) : Prop where
  len : q.length = G.length
  at' : ∀ x : Int, 0 ≤ x → x < G.length → inB q x = (decide (x ≠ (k : Int)) && !D.contains x)
theorem Mk.start (G : Gr) (k : Nat) : Mk G k [] (mk1 G.length k G.length) := ⟨mk1_len _ _ _, fun x x0 x1 => by
  obtain ⟨n, rfl⟩ : ∃ n : Nat, x = n := ⟨x.toNat, by omega⟩
  have hn : n < G.length := by omega
  unfold inB
  rw [Int.toNat_natCast, List.getD_eq_getElem?_getD]
  have hne : decide ((n : Int) ≠ (k : Int)) = decide (n ≠ k) := by rw [Bool.eq_iff_iff, decide_eq_true_iff, decide_eq_true_iff]; omega
  simp [mk1, hn, hne]⟩
theorem Mk.next {G : Gr} {k : Nat} {D : List Int} {q : List Bool} {a : Int} (h : Mk G k D q) (h0 : 0 ≤ a) (h1 : a < G.length) : Mk G k (D ++ [a]) (q.set a.toNat false) := by
  refine ⟨by rw [List.length_set]; exact h.len, fun x x0 x1 => ?_⟩
  rw [inB_set false h0 (by rw [h.len]; exact h1) x0]
  by_cases hx : x = a
  · subst hx; simp
  · rw [if_neg hx, h.at' x x0 x1]
    simp [hx]
theorem behR_at {G : Gr} (h0 : ordE G = 0) {k : Int} (k0 : 0 ≤ k) (k1 : k < G.length) : behR G k = (rng G.length).filter (ld G k) := by
  unfold behR; rw [if_pos ⟨h0, k0, k1⟩]
theorem Mk.one {G : Gr} (h0 : ordE G = 0) {k : Nat} (k1 : k < G.length) {q : List Bool} (h : Mk G k (behR G (k : Int)) q) : rdyO G q = [(k : Int)] := by
  refine rdyO_one h0 (by omega) (by omega) h.len (fun x x0 x1 => ?_)
  rw [h.at' x x0 x1, behR_at h0 (by omega) (by omega)]
  congr 2
  rw [Bool.eq_iff_iff, List.contains_iff_mem, List.mem_filter]
  exact ⟨fun h => h.2, fun h => ⟨mem_rng.2 ⟨x0, x1⟩, h⟩⟩
/-- Who lies behind: a greater level, a later place, and not ahead. -/
theorem beh_all {G : Gr} (h0 : ordE G = 0) {k : Nat} (k1 : k < G.length) {x : Int} (hx : x ∈ behR G (k : Int)) {a : List Int} (ha : Pl G (ordA G).length a) :
    0 ≤ x ∧ x < G.length ∧ (levA G).getD k 0 < (levA G).getD x.toNat 0 ∧ a.getD k 0 < a.getD x.toNat 0 ∧ ∀ y ∈ behR G x, y ≠ (k : Int) := by
  have hR := rt_of h0
  rw [behR_at h0 (by omega) (by omega), List.mem_filter] at hx
  obtain ⟨hm, hl⟩ := hx
  obtain ⟨x0, x1⟩ := mem_rng.1 hm
  obtain ⟨h1, i, hi, j, hj, e1, e2, hji⟩ := beh_place hR (by omega) (by omega) x0 x1 hl
  have hA := (levA_at hR).2
  have l1 := hA x x0 x1
  have l2 := hA (k : Int) (by omega) (by omega)
  rw [Int.toNat_natCast] at l2
  refine ⟨x0, x1, by rw [l1, l2]; exact h1, ?_, fun y hy e => ?_⟩
  · have p1 := ha.at' i hi hi
    have p2 := ha.at' j hj hj
    rw [e1] at p1
    rw [e2, Int.toNat_natCast] at p2
    rw [p1, p2]; omega
  · subst e
    rw [behR_at h0 x0 x1, List.mem_filter] at hy
    rw [ld_asym hR (by omega) (by omega) x0 x1 hl] at hy
    cases hy.2
end Go.Proofs.Ytkeadpichlgagaa.Wv
