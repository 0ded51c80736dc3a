/- Kept of the text Pm8: what is reached (wip/tools/prune.py). -/
import Derived.Test.YtkeadpichlgagaaVPm5
namespace Go.Proofs.Ytkeadpichlgagaa.Pla
open Go.RowKit Go.Lib Go.Sort Go.Shelf Go.Proofs.YtkeadpichlgagaaW.PrintWords Go.Proofs.YtkeadpichlgagaaW.PrintLast Go.Proofs.YtkeadpichlgagaaW.PrintMore
open Go.Proofs.Ytkeadpichlgagaa.Pl Go.Proofs.Ytkeadpichlgagaa.PlS Go.Proofs.Ytkeadpichlgagaa.Mp
set_option linter.unusedVariables false
set_option linter.unusedSimpArgs false
set_option linter.unnecessarySimpa false
def dig : Nat → Nat → List Int
  | 0, _ => []
  | f + 1, n => if n = 0 then [] else ((n % 256 : Nat) : Int) :: dig f (n / 256)
theorem dig_len : ∀ f n, (dig f n).length ≤ f
  | 0, _ => Nat.le_refl _
  | f + 1, n => by
    unfold dig
    split
    · simp
    · have := dig_len f (n / 256); simp; omega
theorem l1_val (low : List Int) (hl : low.length ≤ 8) : ∀ (j : Nat) (out : List Int), j ≤ low.length → out.length + j ≤ 1000000 → Ev (fun k => echelonref01_Number.l1 k low out ((j : Int) - 1)) (out ++ (low.take j).reverse)
  | 0, out, hj, ho => by
    refine Ev.step (f := fun k => some out) (fun k => ?_) (by simpa using Ev.now _)
    conv => lhs; unfold echelonref01_Number.l1
    rw [if_neg (by omega)]
  | j + 1, out, hj, ho => by
    have hlt : j < low.length := by omega
    have e1 : ((j + 1 : Nat) : Int) - 1 = (j : Int) := by omega
    have hr : Go.Proofs.YtkeadpichlgagaaW.PrintWords.rd low (j : Int) = low[j] := rd_at low hlt
    have hw : wrap64 ((j : Int) - 1) = (j : Int) - 1 := by unfold wrap64; omega
    refine Ev.step (f := fun k => echelonref01_Number.l1 k low (out ++ [low[j]]) ((j : Int) - 1)) (fun k => ?_) ?_
    · conv => lhs; unfold echelonref01_Number.l1
      rw [e1, if_pos (show (j : Int) ≥ 0 by omega), if_pos (show (0 : Int) ≤ (j : Int) by omega), if_pos (show (j : Int) < (low.length : Int) by omega), if_pos (show out.length < 140737488355328 by omega), hr, hw]
    · have ih := l1_val low hl j (out ++ [low[j]]) (by omega) (by simp; omega)
      have e2 : out ++ (low.take (j + 1)).reverse = (out ++ [low[j]]) ++ (low.take j).reverse := by
        rw [List.take_succ_eq_append_getElem hlt, List.reverse_append]
        simp
      rw [e2]
      exact ih
theorem l0_low (f : Nat) : ∀ (n : Nat) (low : List Int), n < 256 ^ f → f + low.length ≤ 8 → Ev (fun k => echelonref01_Number.l0 k (n : Int) low) (((low ++ dig f n).length : Int) :: (low ++ dig f n).reverse) := by
  have fin : ∀ (low : List Int), low.length ≤ 8 → Ev (fun k => echelonref01_Number.l0 k 0 low) ((low.length : Int) :: low.reverse) := by
    intro low hl
    have hw : wrap64 ((low.length : Int) - 1) = (low.length : Int) - 1 := by unfold wrap64; omega
    refine Ev.step (f := fun k => echelonref01_Number.l1 k low [(low.length : Int)] ((low.length : Int) - 1)) (fun k => ?_) ?_
    · conv => lhs; unfold echelonref01_Number.l0
      rw [if_neg (by decide), hw]
      congr 1
      congr 1
      omega
    · have := l1_val low hl low.length [(low.length : Int)] (Nat.le_refl _) (by simp; omega)
      rw [List.take_length] at this
      exact this
  induction f with
  | zero =>
    intro n low hn hl
    have : n = 0 := by simp at hn; omega
    subst this
    simp only [dig, List.append_nil]
    exact fin low (by omega)
  | succ f ih =>
    intro n low hn hl
    by_cases h0 : n = 0
    · subst h0
      simp only [dig, if_true, List.append_nil]
      exact fin low (by omega)
    · have e : dig (f + 1) n = ((n % 256 : Nat) : Int) :: dig f (n / 256) := by
        conv => lhs; unfold dig
        rw [if_neg h0]
      have e2 : low ++ dig (f + 1) n = (low ++ [((n % 256 : Nat) : Int)]) ++ dig f (n / 256) := by rw [e]; simp
      rw [e2]
      have h64 : n < 18446744073709551616 := Nat.lt_of_lt_of_le hn (by
        have := Nat.pow_le_pow_right (show 0 < 256 by decide) (show f + 1 ≤ 8 by omega)
        exact Nat.le_trans this (by decide))
      refine Ev.step (f := fun k => echelonref01_Number.l0 k ((n / 256 : Nat) : Int) (low ++ [((n % 256 : Nat) : Int)])) (fun k => ?_) (ih (n / 256) _ (by rw [Nat.pow_succ] at hn; exact Nat.div_lt_of_lt_mul (by omega)) (by simp; omega))
      conv => lhs; unfold echelonref01_Number.l0
      rw [if_pos (by omega), if_pos (by omega)]
      have e3 : IntKind.u64.wrap (Int.tdiv (n : Int) 256) = ((n / 256 : Nat) : Int) := by
        rw [Int.tdiv_eq_ediv_of_nonneg (by omega)]
        simp [IntKind.wrap, IntKind.signed, IntKind.bits]
        omega
      have e4 : (Int.tmod (n : Int) 256) % 256 = ((n % 256 : Nat) : Int) := by
        rw [Int.tmod_eq_emod_of_nonneg (by omega)]
        omega
      rw [e3, e4]
def nB (n : Int) : List Int := ((dig 8 (IntKind.u64.wrap n).toNat).length : Int) :: (dig 8 (IntKind.u64.wrap n).toNat).reverse
theorem nB_len (n : Int) : (nB n).length ≤ 9 := by
  have := dig_len 8 (IntKind.u64.wrap n).toNat
  simp [nB]; omega
theorem u64_range (n : Int) : 0 ≤ IntKind.u64.wrap n ∧ IntKind.u64.wrap n < 18446744073709551616 := by
  simp [IntKind.wrap, IntKind.signed, IntKind.bits]
  omega
theorem num_ev (n : Int) : Ev (fun k => echelonref01_Number.f k (IntKind.u64.wrap n)) (nB n) := by
  have hr := u64_range n
  have h := l0_low 8 (IntKind.u64.wrap n).toNat [] (by show _ < 18446744073709551616; omega) (by simp)
  rw [Int.toNat_of_nonneg hr.1, List.nil_append] at h
  exact h
def lB (l : List Int) : List Int := nB l.length ++ l.flatMap nB
theorem flat_le {α : Type} (f : α → List Int) (c : Nat) : ∀ l : List α, (∀ x ∈ l, (f x).length ≤ c) → (l.flatMap f).length ≤ c * l.length
  | [], _ => by simp
  | x :: l, h => by
    have h1 := h x List.mem_cons_self
    have h2 := flat_le f c l (fun y hy => h y (List.mem_cons_of_mem _ hy))
    rw [List.flatMap_cons, List.length_append, List.length_cons, Nat.mul_succ]
    omega
theorem lB_len (l : List Int) : (lB l).length ≤ 9 * l.length + 9 := by
  have h1 := nB_len l.length
  have h2 := flat_le nB 9 l (fun x _ => nB_len x)
  rw [lB, List.length_append]; omega
theorem list_in (l : List Int) (hl : l.length ≤ 1000000) : ∀ m i : Nat, i + m = l.length → ∀ out : List Int, out.length + 9 * m ≤ 100000000 → Ev (fun k => echelonref15_list.l0 k l out (i : Int)) (out ++ (l.drop i).flatMap nB)
  | 0, i, h, out, ho => by
    rw [List.drop_of_length_le (by omega)]
    refine Ev.step (f := fun _ => some out) (fun k => by simp only [echelonref15_list.l0]; rw [if_neg (by omega)]) ?_
    simpa using Ev.now _
  | m + 1, i, h, out, ho => by
    have hlt : i < l.length := by omega
    have hn := nB_len l[i]
    have ih := list_in l hl m (i + 1) (by omega) (out ++ nB l[i]) (by rw [List.length_append]; omega)
    rw [List.append_assoc] at ih
    rw [List.drop_eq_getElem_cons hlt, List.flatMap_cons]
    refine Ev.step (f := fun k => (echelonref01_Number.f k (IntKind.u64.wrap l[i])).bind fun t => if out.length + t.length < 140737488355328 then echelonref15_list.l0 k l (out ++ t) ((i + 1 : Nat) : Int) else none) (fun k => by simp only [echelonref15_list.l0]; rw [if_pos (by omega), if_pos (by omega), rd_at l hlt, inc i (by omega)]) (Ev.bind (num_ev _) ?_)
    simp only [if_pos (show out.length + (nB l[i]).length < 140737488355328 by omega)]
    exact ih
theorem list_ev (l : List Int) (hl : l.length ≤ 1000000) : Ev (fun k => echelonref15_list.f k l) (lB l) := by
  refine Ev.congr (fun k => by unfold echelonref15_list.f; rfl) (Ev.bind (num_ev _) ?_)
  have h := list_in l hl l.length 0 (by omega) (nB l.length) (by have := nB_len l.length; omega)
  rw [List.drop_zero] at h
  exact h
def wB (x : S51) : List Int := lB x.f0 ++ lB x.f1 ++ nB x.f2
theorem wB_len (x : S51) : (wB x).length ≤ 9 * (x.f0.length + x.f1.length) + 27 := by
  have h1 := lB_len x.f0
  have h2 := lB_len x.f1
  have h3 := nB_len x.f2
  simp only [wB, List.length_append]; omega
def pB (b d : Int) (ws : List S51) : List Int := nB b ++ nB d ++ nB ws.length ++ ws.flatMap wB
set_option maxHeartbeats 1000000 in
theorem bytes_in (b d : Int) (ws : List S51) (hs : sizeN ws ≤ 1000000) : ∀ m i : Nat, i + m = ws.length → ∀ out : List Int, out.length + 27 * sizeN (ws.drop i) ≤ 100000000 → Ev (fun k => echelonref15_Bytes.l0 k out (i : Int) b d ws) (out ++ (ws.drop i).flatMap wB)
  | 0, i, h, out, ho => by
    rw [List.drop_of_length_le (by omega)]
    refine Ev.step (f := fun _ => some out) (fun k => by simp only [echelonref15_Bytes.l0]; rw [if_neg (by omega)]) ?_
    simpa using Ev.now _
  | m + 1, i, h, out, ho => by
    have hlt : i < ws.length := by omega
    have hbd := sizeN_bd ws
    have hx := hbd.2.1 _ (List.getElem_mem hlt)
    rw [List.drop_eq_getElem_cons hlt, sizeN_cons] at ho
    rw [List.drop_eq_getElem_cons hlt, List.flatMap_cons]
    have h1 := lB_len ws[i].f0
    have h2 := lB_len ws[i].f1
    have h3 := nB_len ws[i].f2
    have ih := bytes_in b d ws hs m (i + 1) (by omega) (out ++ wB ws[i]) (by have := wB_len ws[i]; rw [List.length_append]; omega)
    rw [List.append_assoc] at ih
    refine Ev.step (f := fun k => (echelonref15_list.f k ws[i].f0).bind fun t198 => (if out.length + t198.length < 140737488355328 then ((some (out ++ t198 : List Int)).bind fun y201 => ((echelonref15_list.f k ws[i].f1).bind fun t205 => (if y201.length + t205.length < 140737488355328 then ((some (y201 ++ t205 : List Int)).bind fun y208 => ((echelonref01_Number.f k (IntKind.u64.wrap ws[i].f2)).bind fun t212 => (if y208.length + t212.length < 140737488355328 then (echelonref15_Bytes.l0 k (y208 ++ t212) ((i + 1 : Nat) : Int) b d ws) else (none)))) else (none)))) else (none)))
      (fun k => by simp only [echelonref15_Bytes.l0]; rw [if_pos (by omega), if_pos (by omega), at51 ws hlt, inc i (by omega)]) (Ev.bind (list_ev ws[i].f0 (by omega)) ?_)
    simp only [if_pos (show out.length + (lB ws[i].f0).length < 140737488355328 by omega), Option.bind_some]
    refine Ev.bind (list_ev ws[i].f1 (by omega)) ?_
    simp only [if_pos (show (out ++ lB ws[i].f0).length + (lB ws[i].f1).length < 140737488355328 by rw [List.length_append]; omega), Option.bind_some]
    refine Ev.bind (num_ev _) ?_
    simp only [if_pos (show (out ++ lB ws[i].f0 ++ lB ws[i].f1).length + (nB ws[i].f2).length < 140737488355328 by rw [List.length_append, List.length_append]; omega)]
    rw [show out ++ lB ws[i].f0 ++ lB ws[i].f1 ++ nB ws[i].f2 = out ++ wB ws[i] from by simp [wB]]
    exact ih
theorem bytes_ev (b d : Int) (ws : List S51) (hs : sizeN ws ≤ 1000000) : Ev (fun k => echelonref15_Bytes.f k b d ws) (pB b d ws) := by
  have h1 := nB_len b
  have h2 := nB_len d
  have h3 := nB_len ws.length
  refine Ev.congr (fun k => by unfold echelonref15_Bytes.f; rfl) (Ev.bind (num_ev _) ?_)
  refine Ev.bind (num_ev _) ?_
  simp only [if_pos (show (nB b).length + (nB d).length < 140737488355328 by omega), Option.bind_some]
  refine Ev.bind (num_ev _) ?_
  simp only [if_pos (show (nB b ++ nB d).length + (nB ws.length).length < 140737488355328 by rw [List.length_append]; omega)]
  have h := bytes_in b d ws hs ws.length 0 (by omega) (nB b ++ nB d ++ nB ws.length) (by rw [List.drop_zero]; simp only [List.length_append]; omega)
  rw [List.drop_zero] at h
  exact h
theorem bytes_calls (b d : Int) (A : Option Addr) (c : Nat) (ws : List S51) (w : World) (hC : k51.C w A ws.length ws) (hcap : ws.length ≤ c) (hs : sizeN ws ≤ 1000000) :
    Calls Try.prog 29 #[.agg #[.int .i64 b, .int .i64 d, .slice A ws.length c]] w fun e w' => ∃ A' c', e = .returned (.slice A' (pB b d ws).length c') ∧ (Kd.int .u8).C w' A' (pB b d ws).length (pB b d ws) ∧ Below w.heap.size w w' := by
  obtain ⟨k, hk⟩ := (bytes_ev b d ws hs).rounds
  refine (echelonref15_Bytes.calls k b d A c ws _ w hC hcap hk).mono ?_
  rintro e w' ⟨v, rfl, hr, hb⟩
  obtain ⟨A', c', rfl⟩ := Kd.R_slice hr
  exact ⟨A', c', rfl, (Kd.R_reads' hr).2.2, hb⟩
end Go.Proofs.Ytkeadpichlgagaa.Pla
namespace Go.Proofs.Ytkeadpichlgagaa.Pla
open Go.RowKit Go.Lib Go.Sort Go.Shelf Go.Proofs.YtkeadpichlgagaaW.PrintWords Go.Proofs.YtkeadpichlgagaaW.PrintLast Go.Proofs.YtkeadpichlgagaaW.PrintMore
open Go.Proofs.Ytkeadpichlgagaa.Pl Go.Proofs.Ytkeadpichlgagaa.PlS Go.Proofs.Ytkeadpichlgagaa.Mp
set_option linter.unusedVariables false
set_option linter.unusedSimpArgs false
set_option linter.unnecessarySimpa false
def Ge (w : World) (B : Nat) (f : Nat → Nat) (cells : List Value) (j : Nat) (x : List Int) : Prop := ∃ vr, cells[j]? = some vr ∧ IntR w B vr x ∧ ∀ k, vr.ownBlock = some k → f k = j
def Gs (w : World) (B : Nat) (v : Value) (gs : List (List Int)) (f : Nat → Nat) : Prop := ∃ cells, w.ownsRow B 25 1 v gs.length cells ∧ ∀ j x, gs[j]? = some x → Ge w B f cells j x
theorem Gs.of_S {w : World} {B : Nat} {ok : Nat → Prop} {v : Value} {gs : List (List Int)} (h : Kd.S (Kd.slice 3 (Kd.int .i64)) 25 w B ok v gs) : ∃ f, Gs w B v gs f := by
  obtain ⟨f, h0, inner, ho, hr⟩ := h
  rw [List.length_zipIdx] at ho
  refine ⟨f, inner, ho, fun j x hj => ?_⟩
  obtain ⟨u, e, hR⟩ := hr.2 j (x, j) (Kd.zip_at hj)
  refine ⟨u, ?_, Kd.R_mono hR (fun _ _ => trivial), fun k hk => (hR.1 k hk).2⟩
  have e' : (inner.drop (j * 1)).take 1 = [u] := e
  have := congrArg (·[0]?) e'
  rw [Nat.mul_one] at this
  simp at this
  exact this
theorem Gs.move {w w1 : World} {B : Nat} {v : Value} {gs : List (List Int)} {f : Nat → Nat} (h : Gs w B v gs f) (hb : ∀ k, B ≤ k → k < w.heap.size → w1.heap[k]? = w.heap[k]?) : Gs w1 B v gs f := by
  obtain ⟨cells, ho, he⟩ := h
  refine ⟨cells, own_move ho (fun k hk => hb k (own_base ho k hk) (own_lt ho k hk)), fun j x hj => ?_⟩
  obtain ⟨vr, e, hr, t⟩ := he j x hj
  exact ⟨vr, e, hr.move (fun k hk hlt => hb k (Kd.R_base hr k hk) hlt), t⟩
theorem Gs.below {w w1 : World} {B : Nat} {v : Value} {gs : List (List Int)} {f : Nat → Nat} (h : Gs w B v gs f) (hb : Below w.heap.size w w1) : Gs w1 B v gs f := h.move (fun k _ hlt => hb.block k hlt)
theorem row_ne {w : World} {B : Nat} {v u : Value} {n : Nat} {cells : List Value} {xs : List Int} (ho : w.ownsRow B 25 1 v n cells) (hu : IntR w B u xs) : ∀ k, u.ownBlock = some k → v.ownBlock ≠ some k := by
  intro k hk e
  obtain ⟨c1, h1⟩ := own_typed ho k e
  obtain ⟨inner, hi⟩ := Kd.R_own hu
  obtain ⟨c2, h2⟩ := own_typed hi k hk
  rw [h1] at h2
  cases h2
theorem Gs.turn {w w1 : World} {B : Nat} {v : Value} {gs : List (List Int)} {f : Nat → Nat} {cells : List Value} {k : Nat} {vr : Value} {x x' : List Int} (ho : w.ownsRow B 25 1 v gs.length cells) (he : ∀ j x, gs[j]? = some x → Ge w B f cells j x)
    (hx : gs[k]? = some x) (hvr : cells[k]? = some vr) (hg : w.grownBy w1 vr.ownBlock) (hr : IntR w1 B vr x') : Gs w1 B v (gs.set k x') f := by
  have hk := (List.getElem?_eq_some_iff.1 hx).1
  obtain ⟨vr', e0, hr0, t0⟩ := he k x hx
  obtain rfl : vr' = vr := by rw [hvr] at e0; exact (Option.some.inj e0).symm
  have ho1 : w1.ownsRow B 25 1 v gs.length cells := ho.kept hg (by
    rcases hb : vr'.ownBlock with _ | b
    · rcases hv : v.ownBlock with _ | b
      · exact .inl rfl
      · right; simp
    · right; exact fun e => row_ne ho hr0 b hb e)
  refine ⟨cells, by rw [List.length_set]; exact ho1, fun j y hj => ?_⟩
  by_cases hjk : k = j
  · subst hjk
    rw [List.getElem?_set_self hk] at hj
    cases hj
    exact ⟨vr', e0, hr, t0⟩
  · rw [List.getElem?_set_ne hjk] at hj
    obtain ⟨u, e1, hr1, t1⟩ := he j y hj
    refine ⟨u, e1, hr1.move (fun b hb hlt => hg.block b hlt (fun e => ?_)), t1⟩
    have := t0 b e.symm
    have := t1 b hb
    omega
theorem Gs.at {w : World} {B : Nat} {v : Value} {gs : List (List Int)} {f : Nat → Nat} (h : Gs w B v gs f) {k : Nat} {x : List Int} (hx : gs[k]? = some x) : ∃ g cap cells vr, v = .slice (some ⟨g, 0, none⟩) gs.length cap ∧ B ≤ g ∧ w.ownsRow B 25 1 v gs.length cells ∧ (∀ j x, gs[j]? = some x → Ge w B f cells j x) ∧
    cells[k]? = some vr ∧ IntR w B vr x ∧ w.cell? ⟨g, k, none⟩ = some vr := by
  have hk := (List.getElem?_eq_some_iff.1 hx).1
  obtain ⟨cells, ho, he⟩ := h
  obtain ⟨vr, e0, hr, t⟩ := he k x hx
  obtain ⟨g, cap, rfl, hg, hlt⟩ := ho.form (by omega)
  exact ⟨g, cap, cells, vr, rfl, hg, ho, he, e0, hr, by have := ho.cells (g := g) rfl k vr e0; rwa [add_plain] at this⟩
theorem clusP2 (b d : Int) (ws : List S51) (b' d' : Int) (ws' : List S51) : clusP [⟨b, d, ws⟩, ⟨b', d', ws'⟩] = clus ws ++ clus ws' := by simp [clusP]
theorem clusters2_calls (b d : Int) (A : Option Addr) (c : Nat) (ws : List S51) (b' d' : Int) (A' : Option Addr) (c' : Nat) (ws' : List S51) (bb : Nat) (w : World) (h : w.heap[bb]? = some (.cells #[.int .i64 b, .int .i64 d, .slice A ws.length c, .int .i64 b', .int .i64 d', .slice A' ws'.length c'] 43 (0, 0)))
    (l0 : ws.length ≤ c) (g0 : k51.C w A ws.length ws) (l1 : ws'.length ≤ c') (g1 : k51.C w A' ws'.length ws') (hz : Psz ws) (hz' : Psz ws') (hs : (clus ws).length + (clus ws').length ≤ 1000000) (C : Nat) (hC : 2 ≤ C) :
    Calls Try.prog 35 #[.slice (some ⟨bb, 0, none⟩) 2 C] w fun e w' => ∃ v, e = .returned v ∧ (Kd.int .i64).R 3 w' w.heap.size (fun _ => True) v (Wv.asc (clus ws ++ clus ws')) ∧ Below w.heap.size w w' := by
  obtain ⟨k, hk⟩ := (clusters_ev [⟨b, d, ws⟩, ⟨b', d', ws'⟩] (by simp) (fun p hp => by
    simp at hp
    rcases hp with rfl | rfl
    · exact Nat.le_trans hz.n (by omega)
    · exact Nat.le_trans hz'.n (by omega)) (by rw [clusP2, List.length_append]; exact hs)).rounds
  rw [clusP2] at hk
  exact plan_Clusters.calls k (some ⟨bb, 0, none⟩) C [⟨b, d, ws⟩, ⟨b', d', ws'⟩] _ w (C_plan2 b d ws b' d' ws' h l0 g0 l1 g1) hC hk
theorem drop_set_lt (gs : List (List Int)) {i j : Nat} (h : i < j) (x : List Int) : (gs.set i x).drop j = gs.drop j := by
  rw [List.drop_set]
  rw [if_pos h]
theorem drop_head {gs hs : List (List Int)} {i : Nat} (h : gs.drop i = hs.drop i) (hi : i < hs.length) : gs[i]? = some hs[i] := by
  have := congrArg (·[0]?) h
  simp only [List.getElem?_drop, Nat.add_zero] at this
  rw [this, List.getElem?_eq_getElem hi]
theorem drop_tail {gs hs : List (List Int)} {i : Nat} (h : gs.drop i = hs.drop i) : gs.drop (i + 1) = hs.drop (i + 1) := by
  rw [← List.drop_drop, ← List.drop_drop, h]
end Go.Proofs.Ytkeadpichlgagaa.Pla
