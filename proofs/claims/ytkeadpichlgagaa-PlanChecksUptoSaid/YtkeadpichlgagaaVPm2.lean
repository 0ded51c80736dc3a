/- Kept of the text Pm2: what is reached (wip/tools/prune.py). -/
import Derived.Test.YtkeadpichlgagaaVPm1
import Derived.Test.YtkeadpichlgagaaVPlx2
import Derived.Test.YtkeadpichlgagaaVPlx3
namespace Go.Proofs.Ytkeadpichlgagaa.Pla
open Go.RowKit Go.Lib Go.Sort Go.Shelf Go.Proofs.YtkeadpichlgagaaW.PrintWords Go.Proofs.YtkeadpichlgagaaW.PrintLast Go.Proofs.YtkeadpichlgagaaW.PrintMore
open Go.Proofs.Ytkeadpichlgagaa.Pl Go.Proofs.Ytkeadpichlgagaa.PlS Go.Proofs.Ytkeadpichlgagaa.Mp
set_option linter.unusedVariables false
set_option linter.unusedSimpArgs false
set_option linter.unnecessarySimpa false
theorem rd_at (l : List Int) {i : Nat} (h : i < l.length) : Go.Proofs.YtkeadpichlgagaaW.PrintWords.rd l (i : Int) = l[i] := by simp [Go.Proofs.YtkeadpichlgagaaW.PrintWords.rd, h]
theorem count_snoc (l : List Int) (c : Int) {j : Nat} (h : j < l.length) : (l.take (j + 1)).count c = (l.take j).count c + (if l[j] = c then 1 else 0) := by
  rw [List.take_succ_eq_append_getElem h, List.count_append, List.count_singleton]
  simp
theorem count_in (b d : Int) (ws : List S51) (c : Int) (hw : ws.length ≤ 1000000) (ht : (clus ws).length ≤ 1000000) : ∀ m i : Nat, i + m = ws.length → Ev (fun k => echelonref15_Count.l0 k c (((clus (ws.take i)).count c : Nat) : Int) (i : Int) b d ws) (((clus ws).count c : Nat) : Int)
  | 0, i, h => by
    rw [List.take_of_length_le (by omega)]
    exact Ev.step (f := fun _ => some _) (fun k => by simp only [echelonref15_Count.l0]; rw [if_neg (by omega)]) (Ev.now _)
  | m + 1, i, h => by
    have hlt : i < ws.length := by omega
    have ih := count_in b d ws c hw ht m (i + 1) (by omega)
    have htl := clus_le ws (i + 1)
    rw [clus_snoc ws hlt] at ih htl
    rw [List.count_append] at ih
    rw [List.length_append] at htl
    have hcl := List.count_le_length (a := c) (l := clus (ws.take i))
    have inner : ∀ e j : Nat, j + e = ws[i].f1.length → Ev (fun k => echelonref15_Count.l1 k c ((((clus (ws.take i)).count c + (ws[i].f1.take j).count c : Nat)) : Int) (i : Int) (j : Int) b d ws) (((clus ws).count c : Nat) : Int) := by
      intro e
      induction e with
      | zero =>
        intro j hj
        rw [show ws[i].f1.take j = ws[i].f1 from List.take_of_length_le (by omega)]
        exact Ev.step (fun k => by simp only [echelonref15_Count.l1]; rw [if_pos (by omega), if_pos (by omega), at51 ws hlt, if_neg (by omega), inc i (by omega)]) ih
      | succ e ihe =>
        intro j hj
        have hlj : j < ws[i].f1.length := by omega
        have h2 := ihe (j + 1) (by omega)
        have hc2 := List.count_le_length (a := c) (l := ws[i].f1.take j)
        have hl2 : (ws[i].f1.take j).length ≤ j := List.length_take_le _ _
        rw [count_snoc _ c hlj, ← Nat.add_assoc] at h2
        by_cases hq : ws[i].f1[j] = c
        · rw [if_pos hq] at h2
          exact Ev.step (fun k => by simp only [echelonref15_Count.l1]; rw [if_pos (by omega), if_pos (by omega), at51 ws hlt, if_pos (by omega), if_pos (by omega), rd_at _ hlj, if_pos hq, inc j (by omega), inc _ (by omega)]) h2
        · rw [if_neg hq, Nat.add_zero] at h2
          exact Ev.step (fun k => by simp only [echelonref15_Count.l1]; rw [if_pos (by omega), if_pos (by omega), at51 ws hlt, if_pos (by omega), if_pos (by omega), rd_at _ hlj, if_neg hq, inc j (by omega)]) h2
    have h0 := inner ws[i].f1.length 0 (by omega)
    rw [List.take_zero, List.count_nil, Nat.add_zero] at h0
    exact Ev.step (fun k => by simp only [echelonref15_Count.l0]; rw [if_pos (by omega)]; rfl) h0
theorem count_calls (b d : Int) (A : Option Addr) (c : Nat) (ws : List S51) (q : Int) (w : World) (hC : k51.C w A ws.length ws) (hcap : ws.length ≤ c) (hz : Psz ws) :
    Calls Try.prog 36 #[.agg #[.int .i64 b, .int .i64 d, .slice A ws.length c], .int .i64 q] w fun e w' => e = .returned (.int .i64 ((clus ws).count q : Nat)) ∧ Below w.heap.size w w' := by
  obtain ⟨k, hk⟩ := (count_in b d ws q (by have := hz.n; omega) hz.all ws.length 0 (by omega)).rounds
  exact echelonref15_Count.calls k b d A c ws q _ w hC hcap hk
theorem rwave_in (b d : Int) (ws : List S51) (c : Int) (hw : ws.length ≤ 1000000) (hr : ∀ x ∈ ws, x.f1.length ≤ 1000000) : ∀ m i : Nat, i + m = ws.length → Ev (fun k => echelonref15_Wave.l0 k c (i : Int) b d ws) (waveL c (ws.drop i) i)
  | 0, i, h => by
    rw [List.drop_of_length_le (by omega)]
    exact Ev.step (f := fun _ => some _) (fun k => by simp only [echelonref15_Wave.l0]; rw [if_neg (by omega)]; rfl) (Ev.now _)
  | m + 1, i, h => by
    have hlt : i < ws.length := by omega
    have ih := rwave_in b d ws c hw hr m (i + 1) (by omega)
    have hl := hr _ (List.getElem_mem hlt)
    have inner : ∀ e j : Nat, j + e = ws[i].f1.length → Ev (fun k => echelonref15_Wave.l1 k c (i : Int) (j : Int) b d ws) (if c ∈ ws[i].f1.drop j then (i : Int) else waveL c (ws.drop (i + 1)) (i + 1)) := by
      intro e
      induction e with
      | zero =>
        intro j hj
        rw [show ws[i].f1.drop j = [] from List.drop_of_length_le (by omega), if_neg (by simp)]
        exact Ev.step (fun k => by simp only [echelonref15_Wave.l1]; rw [if_pos (by omega), if_pos (by omega), at51 ws hlt, if_neg (by omega), inc i (by omega)]) ih
      | succ e ihe =>
        intro j hj
        have hlj : j < ws[i].f1.length := by omega
        have h2 := ihe (j + 1) (by omega)
        rw [show ws[i].f1.drop j = ws[i].f1[j] :: ws[i].f1.drop (j + 1) from List.drop_eq_getElem_cons hlj]
        by_cases hq : ws[i].f1[j] = c
        · rw [if_pos (by rw [hq]; exact List.mem_cons_self)]
          exact Ev.step (f := fun _ => some _) (fun k => by simp only [echelonref15_Wave.l1]; rw [if_pos (by omega), if_pos (by omega), at51 ws hlt, if_pos (by omega), if_pos (by omega), rd_at _ hlj, if_pos hq]) (Ev.now _)
        · rw [show (if c ∈ ws[i].f1[j] :: ws[i].f1.drop (j + 1) then (i : Int) else waveL c (ws.drop (i + 1)) (i + 1)) = if c ∈ ws[i].f1.drop (j + 1) then (i : Int) else waveL c (ws.drop (i + 1)) (i + 1) from by
            by_cases h3 : c ∈ ws[i].f1.drop (j + 1)
            · rw [if_pos h3, if_pos (List.mem_cons_of_mem _ h3)]
            · rw [if_neg h3, if_neg (fun h => (List.mem_cons.1 h).elim (fun h => hq h.symm) h3)]]
          exact Ev.step (fun k => by simp only [echelonref15_Wave.l1]; rw [if_pos (by omega), if_pos (by omega), at51 ws hlt, if_pos (by omega), if_pos (by omega), rd_at _ hlj, if_neg hq, inc j (by omega)]) h2
    have h0 := inner ws[i].f1.length 0 (by omega)
    rw [List.drop_zero] at h0
    rw [show waveL c (ws.drop i) i = if c ∈ ws[i].f1 then (i : Int) else waveL c (ws.drop (i + 1)) (i + 1) from by rw [List.drop_eq_getElem_cons hlt]; rfl]
    exact Ev.step (fun k => by simp only [echelonref15_Wave.l0]; rw [if_pos (by omega)]; rfl) h0
theorem rwave_calls (b d : Int) (A : Option Addr) (c : Nat) (ws : List S51) (q : Int) (w : World) (hC : k51.C w A ws.length ws) (hcap : ws.length ≤ c) (hz : Psz ws) :
    Calls Try.prog 33 #[.agg #[.int .i64 b, .int .i64 d, .slice A ws.length c], .int .i64 q] w fun e w' => e = .returned (.int .i64 (waveF ws q)) ∧ Below w.heap.size w w' := by
  have h := rwave_in b d ws q (by have := hz.n; omega) hz.rows1 ws.length 0 (by omega)
  rw [List.drop_zero] at h
  obtain ⟨k, hk⟩ := h.rounds
  exact echelonref15_Wave.calls k b d A c ws q _ w hC hcap hk
def sizeN (ws : List S51) : Nat := (ws.map (fun x => 1 + x.f0.length + x.f1.length)).sum
theorem sizeN_snoc (ws : List S51) {i : Nat} (h : i < ws.length) : sizeN (ws.take (i + 1)) = sizeN (ws.take i) + (1 + ws[i].f0.length + ws[i].f1.length) := by
  unfold sizeN; rw [List.take_succ_eq_append_getElem h, List.map_append, List.sum_append]; simp
theorem sizeN_le (ws : List S51) (i : Nat) : sizeN (ws.take i) ≤ sizeN ws := by
  have : sizeN ws = sizeN (ws.take i) + sizeN (ws.drop i) := by unfold sizeN; rw [← List.sum_append, ← List.map_append, List.take_append_drop]
  omega
theorem size_in (b d : Int) (ws : List S51) (hs : sizeN ws ≤ 4611686018427387904) (hl : ws.length ≤ 4611686018427387904) : ∀ m i : Nat, i + m = ws.length → Ev (fun k => echelonref15_Size.l0 k ((sizeN (ws.take i) : Nat) : Int) (i : Int) b d ws) ((sizeN ws : Nat) : Int)
  | 0, i, h => by
    rw [List.take_of_length_le (by omega)]
    exact Ev.step (f := fun _ => some _) (fun k => by simp only [echelonref15_Size.l0]; rw [if_neg (by omega)]) (Ev.now _)
  | m + 1, i, h => by
    have hlt : i < ws.length := by omega
    have ih := size_in b d ws hs hl m (i + 1) (by omega)
    have h1 := sizeN_le ws (i + 1)
    rw [sizeN_snoc ws hlt] at ih h1
    have e1 : wrap64 ((sizeN (ws.take i) : Int) + 1) = (sizeN (ws.take i) : Int) + 1 := by unfold wrap64; omega
    have e2 : wrap64 ((sizeN (ws.take i) : Int) + 1 + (ws[i].f0.length : Int)) = (sizeN (ws.take i) : Int) + 1 + (ws[i].f0.length : Int) := by unfold wrap64; omega
    have e3 : wrap64 ((sizeN (ws.take i) : Int) + 1 + (ws[i].f0.length : Int) + (ws[i].f1.length : Int)) = ((sizeN (ws.take i) + (1 + ws[i].f0.length + ws[i].f1.length) : Nat) : Int) := by unfold wrap64; omega
    exact Ev.step (fun k => by simp only [echelonref15_Size.l0]; rw [if_pos (by omega), if_pos (by omega), at51 ws hlt, e1, e2, e3, inc i (by omega)]) ih
theorem size_calls (b d : Int) (A : Option Addr) (c : Nat) (ws : List S51) (w : World) (hC : k51.C w A ws.length ws) (hcap : ws.length ≤ c) (hs : sizeN ws ≤ 4611686018427387904) :
    Calls Try.prog 28 #[.agg #[.int .i64 b, .int .i64 d, .slice A ws.length c]] w fun e w' => e = .returned (.int .i64 (sizeN ws : Nat)) ∧ Below w.heap.size w w' := by
  have hl : ws.length ≤ sizeN ws := by
    have : ∀ l : List S51, l.length ≤ sizeN l := by
      intro l
      induction l with
      | nil => simp [sizeN]
      | cons x l ih => unfold sizeN at *; rw [List.map_cons, List.sum_cons, List.length_cons]; omega
    exact this ws
  obtain ⟨k, hk⟩ := (size_in b d ws hs (by omega) ws.length 0 (by omega)).rounds
  exact echelonref15_Size.calls k b d A c ws _ w hC hcap hk
theorem psz_of {ws : List S51} (h : sizeN ws ≤ 10000) : Psz ws := by
  have key : ∀ l : List S51, l.length ≤ sizeN l ∧ (∀ x ∈ l, x.f0.length ≤ sizeN l ∧ x.f1.length ≤ sizeN l) ∧ (clus l).length ≤ sizeN l := by
    intro l
    induction l with
    | nil => simp [sizeN, clus]
    | cons x l ih =>
      have e : sizeN (x :: l) = 1 + x.f0.length + x.f1.length + sizeN l := by unfold sizeN; rw [List.map_cons, List.sum_cons]
      have e2 : (clus (x :: l)).length = x.f1.length + (clus l).length := by unfold clus; rw [List.flatMap_cons, List.length_append]
      rw [e, e2, List.length_cons]
      obtain ⟨a, bb, cc⟩ := ih
      refine ⟨by omega, fun y hy => ?_, by omega⟩
      rcases List.mem_cons.1 hy with rfl | hy
      · exact ⟨by omega, by omega⟩
      · have := bb y hy
        exact ⟨by omega, by omega⟩
  obtain ⟨a, bb, cc⟩ := key ws
  exact ⟨by omega, fun x hx => by have := (bb x hx).1; omega, fun x hx => by have := (bb x hx).2; omega, by omega⟩
def runN (l : List Int) (i : Nat) (c : Int) : Nat := ((l.drop i).takeWhile (fun y => decide (y = c))).length
theorem run_in (l : List Int) (hl : l.length ≤ 1000000) (i : Nat) (hi : i < l.length) : ∀ m n : Nat, i + n + m = l.length → Ev (fun k => echelonlaw15_run.l0 k l (i : Int) (n : Int)) ((n + runN l (i + n) l[i] : Nat) : Int)
  | 0, n, h => by
    rw [show runN l (i + n) l[i] = 0 from by unfold runN; rw [List.drop_of_length_le (by omega)]; rfl, Nat.add_zero]
    have e : wrap64 ((i : Int) + (n : Int)) = ((i + n : Nat) : Int) := by unfold wrap64; omega
    exact Ev.step (f := fun _ => some _) (fun k => by simp only [echelonlaw15_run.l0]; rw [e, if_neg (by omega)]) (Ev.now _)
  | m + 1, n, h => by
    have hlt : i + n < l.length := by omega
    have ih := run_in l hl i hi m (n + 1) (by omega)
    have e : wrap64 ((i : Int) + (n : Int)) = ((i + n : Nat) : Int) := by unfold wrap64; omega
    by_cases hq : l[i + n] = l[i]
    · rw [show n + runN l (i + n) l[i] = n + 1 + runN l (i + (n + 1)) l[i] from by
        unfold runN
        rw [List.drop_eq_getElem_cons hlt, List.takeWhile_cons, decide_eq_true hq, if_pos rfl, List.length_cons, ← Nat.add_assoc i n 1]
        omega]
      exact Ev.step (fun k => by simp only [echelonlaw15_run.l0]; rw [e, if_pos (by omega), if_pos (by omega), if_pos (by omega), if_pos (by omega), rd_at l hlt, rd_at l hi, if_pos hq, inc n (by omega)]) ih
    · rw [show runN l (i + n) l[i] = 0 from by unfold runN; rw [List.drop_eq_getElem_cons hlt, List.takeWhile_cons, decide_eq_false hq]; rfl, Nat.add_zero]
      exact Ev.step (f := fun _ => some _) (fun k => by simp only [echelonlaw15_run.l0]; rw [e, if_pos (by omega), if_pos (by omega), if_pos (by omega), if_pos (by omega), rd_at l hlt, rd_at l hi, if_neg hq]) (Ev.now _)
theorem run_calls (A : Option Addr) (c : Nat) (l : List Int) (i : Nat) (w : World) (hC : (Kd.int .i64).C w A l.length l) (hcap : l.length ≤ c) (hl : l.length ≤ 1000000) (hi : i < l.length) :
    Calls Try.prog 37 #[.slice A l.length c, .int .i64 (i : Int)] w fun e w' => e = .returned (.int .i64 (runN l i l[i] : Nat)) ∧ Below w.heap.size w w' := by
  have h := run_in l hl i hi (l.length - i) 0 (by omega)
  rw [Nat.zero_add, Nat.add_zero] at h
  obtain ⟨k, hk⟩ := h.rounds
  exact (echelonlaw15_run.calls k A c l i _ w hC hcap hk).mono fun e w' ⟨he, hd⟩ => ⟨he, by obtain ⟨n, rfl⟩ := hd.out; exact pw_below_drewN (Below.refl _ _) n⟩
theorem run_count {l : List Int} (hs : l.Pairwise (fun x y => x ≤ y)) {i : Nat} (hi : i < l.length) (h : i = 0 ∨ l[i - 1]'(by omega) ≠ l[i]) : runN l i l[i] = l.count l[i] := by
  have hp := List.pairwise_iff_getElem.1 hs
  have h1 : ∀ x ∈ l.take i, x ≠ l[i] := by
    intro x hx he
    obtain ⟨j, hj, rfl⟩ := List.getElem_of_mem hx
    rw [List.getElem_take] at he
    have hjl : j < i := by rw [List.length_take] at hj; omega
    rcases h with h | h
    · omega
    · have a := hp (i - 1) i (by omega) hi (by omega)
      rcases Nat.lt_or_ge j (i - 1) with h2 | h2
      · have b := hp j (i - 1) (by omega) (by omega) h2
        omega
      · have : j = i - 1 := by omega
        subst this
        exact h he
  have h2 : ∀ (c : Int) (m : List Int), m.Pairwise (fun x y => x ≤ y) → (∀ x ∈ m, c ≤ x) → (m.takeWhile (fun y => decide (y = c))).length = m.count c := by
    intro c m
    induction m with
    | nil => intro _ _; rfl
    | cons x m ih =>
      intro hm hc
      have hm' := List.pairwise_cons.1 hm
      by_cases hx : x = c
      · rw [List.takeWhile_cons, decide_eq_true hx, if_pos rfl, List.length_cons, hx, List.count_cons_self, ih hm'.2 (fun y hy => hc y (List.mem_cons_of_mem _ hy))]
      · rw [List.takeWhile_cons, decide_eq_false hx]
        have hlt : c < x := by have := hc x List.mem_cons_self; omega
        rw [List.count_cons_of_ne hx, List.count_eq_zero.2 (fun hm2 => by have := hm'.1 c hm2; omega)]
        rfl
  have hge : ∀ x ∈ l.drop i, l[i] ≤ x := by
    intro x hx
    obtain ⟨j, hj, rfl⟩ := List.getElem_of_mem hx
    rw [List.getElem_drop]
    rcases Nat.eq_zero_or_pos j with h0 | h0
    · subst h0; simp
    · exact hp i (i + j) hi (by rw [List.length_drop] at hj; omega) (by omega)
  have e := h2 l[i] (l.drop i) (hs.sublist (List.drop_sublist _ _)) hge
  unfold runN
  rw [e]
  have tot : ∀ c : Int, l.count c = (l.take i).count c + (l.drop i).count c := fun c => by rw [← List.count_append, List.take_append_drop]
  have : (l.take i).count l[i] = 0 := List.count_eq_zero.2 (fun hm => h1 _ hm rfl)
  have := tot l[i]
  omega
end Go.Proofs.Ytkeadpichlgagaa.Pla
namespace Go.Proofs.Ytkeadpichlgagaa.Pla
open Go.RowKit Go.Lib Go.Sort Go.Shelf Go.Proofs.YtkeadpichlgagaaW.PrintWords Go.Proofs.YtkeadpichlgagaaW.PrintLast Go.Proofs.YtkeadpichlgagaaW.PrintMore
open Go.Proofs.Ytkeadpichlgagaa.Pl Go.Proofs.Ytkeadpichlgagaa.PlS Go.Proofs.Ytkeadpichlgagaa.Mp
set_option linter.unusedVariables false
set_option linter.unusedSimpArgs false
set_option linter.unnecessarySimpa false
theorem rorder_calls (A : Option Addr) (c : Nat) (G : Wv.Gr) (w : World) (hr : Wv.GC w A G) (hc : G.length ≤ c) (hz : Wv.Gsz G) :
    Calls Try.prog 20 #[.slice A G.length c] w fun e w' => ∃ v, e = .returned (.tuple #[v, .int .i64 (Wv.ordE G)]) ∧ Below w.heap.size w w' := by
  obtain ⟨k, hk⟩ := (Wv.rorder_ev G (by have := hz.n; omega) (fun y hy => by have := hz.rows y hy; omega)).rounds
  refine (PWaveReady.echelonref14_Order.calls k A c G (Wv.ordR G).1 (Wv.ordR G).2 w hr hc hk).mono fun e w' ⟨v, h1, _, h3⟩ => ⟨v, ?_, h3⟩
  rwa [Wv.ordR_snd] at h1
abbrev GRow (w wr : World) (v : Value) (gs : List (List Int)) : Prop := OwnRow ((Kd.slice 3 (Kd.int .i64)).K w) 25 1 wr w.heap.size v gs
theorem GRow.below {w wr w' : World} {v : Value} {gs : List (List Int)} (h : GRow w wr v gs) (hb : Below wr.heap.size wr w') : GRow w w' v gs := OwnRow.below h hb
theorem nodup_of_counts {l : List Int} (h : ∀ x ∈ l, l.count x ≤ 1) : l.Nodup := List.nodup_iff_count.2 (fun a => by
  by_cases ha : a ∈ l
  · exact h a ha
  · rw [List.count_eq_zero.2 ha]; omega)
theorem not_nodup {l : List Int} {x : Int} (h : 1 < l.count x) : ¬ l.Nodup := fun hn => by have := List.nodup_iff_count.1 hn x; omega
set_option maxHeartbeats 8000000 in
set_option maxRecDepth 100000 in
theorem rcheck_calls (b d : Int) (A : Option Addr) (c : Nat) (ws : List S51) (w : World) (hC : k51.C w A ws.length ws) (hcap : ws.length ≤ c) (hz : Psz ws) :
    Calls Try.prog 31 #[.agg #[.int .i64 b, .int .i64 d, .slice A ws.length c]] w fun e w' => e = .returned (.int .i64 (checkF b d ws)) ∧ Below w.heap.size w w' := by
  have HCC := Aside0.mk hC
  have HZ := Aside0.mk hz
  have hmax := hC.2.1
  have HB : Aside0 (Below w.heap.size w w) := ⟨Below.refl _ _⟩
  clear hC hz
  go_enter Try.func31, Try.ntmps31
  go_upto_region 1 with fail
  have hbx : Below w.heap.size w (w.alloc (Obj.cells #[.int .i64 b, .int .i64 d, .slice A ws.length c] 43)) := (Below.refl _ w).alloc (Nat.le_refl _) _
  have K1 := Aside0.mk (grown_new (w := w) #[.int .i64 b, .int .i64 d, .slice A ws.length c] 43)
  obtain ⟨b1, hb1⟩ : ∃ b, w.heap.size = b := ⟨_, rfl⟩
  replace HB := Aside0.mk (HB.out.trans (hbx.mono HB.out.size))
  clear hbx
  generalize w.alloc (Obj.cells #[.int .i64 b, .int .i64 d, .slice A ws.length c] 43) = w1 at *
  rw [hb1] at K1 ⊢
  clear hb1
  have K1c0 := (blk_cell K1.out 0).trans (show _ = some (.int .i64 b) from rfl)
  have K1c1 := (blk_cell K1.out 1).trans (show _ = some (.int .i64 d) from rfl)
  have K1c2 := (blk_cell K1.out 2).trans (show _ = some (.slice A ws.length c) from rfl)
  by_cases h0 : b < 1
  ·
    have d0 : decide (b < 1) = true := decide_eq_true h0
    have HF : Aside0 (checkF b d ws = 2) := ⟨check_a (.inl (fun h => by omega))⟩
    clear h0
    go_wp2_with fail
    go_ret
    exact ⟨by rw [HF.out]; try rfl, HB.out⟩
  ·
    have d0 : decide (b < 1) = false := decide_eq_false h0
    have H0 := Aside0.mk h0
    clear h0
    by_cases h1 : 65535 < b
    ·
      have d1 : decide (65535 < b) = true := decide_eq_true h1
      have HF : Aside0 (checkF b d ws = 2) := ⟨check_a (.inl (fun h => by omega))⟩
      clear h1
      go_wp2_with fail
      go_ret
      exact ⟨by rw [HF.out]; try rfl, HB.out⟩
    ·
      have d1 : decide (65535 < b) = false := decide_eq_false h1
      have H1 := Aside0.mk h1
      clear h1
      by_cases h2 : d < 0
      ·
        have d2 : decide (d < 0) = true := decide_eq_true h2
        have HF : Aside0 (checkF b d ws = 2) := ⟨check_a (.inr (.inl (fun h => by omega)))⟩
        clear h2
        go_wp2_with fail
        go_ret
        exact ⟨by rw [HF.out]; try rfl, HB.out⟩
      ·
        have d2 : decide (d < 0) = false := decide_eq_false h2
        have H2 := Aside0.mk h2
        clear h2
        by_cases h3 : 65535 < d
        ·
          have d3 : decide (65535 < d) = true := decide_eq_true h3
          have HF : Aside0 (checkF b d ws = 2) := ⟨check_a (.inr (.inl (fun h => by omega)))⟩
          clear h3
          go_wp2_with fail
          go_ret
          exact ⟨by rw [HF.out]; try rfl, HB.out⟩
        ·
          have d3 : decide (65535 < d) = false := decide_eq_false h3
          have H3 := Aside0.mk h3
          clear h3
          by_cases h4 : (ws.length : Int) < 1
          ·
            have d4 : decide ((ws.length : Int) < 1) = true := decide_eq_true h4
            have HF : Aside0 (checkF b d ws = 2) := ⟨check_a (.inr (.inr (fun h => by omega)))⟩
            clear h4
            go_wp2_with fail
            go_ret
            exact ⟨by rw [HF.out]; try rfl, HB.out⟩
          ·
            have d4 : decide ((ws.length : Int) < 1) = false := decide_eq_false h4
            have H4 := Aside0.mk h4
            clear h4
            by_cases h5 : (64 : Int) < (ws.length : Int)
            ·
              have d5 : decide ((64 : Int) < (ws.length : Int)) = true := decide_eq_true h5
              have HF : Aside0 (checkF b d ws = 2) := ⟨check_a (.inr (.inr (fun h => by omega)))⟩
              clear h5
              go_wp2_with fail
              go_ret
              exact ⟨by rw [HF.out]; try rfl, HB.out⟩
            ·
              have d5 : decide ((64 : Int) < (ws.length : Int)) = false := decide_eq_false h5
              have H5 := Aside0.mk h5
              clear h5
              have HR1 : Aside0 ((1 ≤ b ∧ b ≤ 65535) ∧ (0 ≤ d ∧ d ≤ 65535) ∧ (1 ≤ ws.length ∧ ws.length ≤ 64)) := ⟨by have := H0.out; have := H1.out; have := H2.out; have := H3.out; have := H4.out; have := H5.out; omega⟩
              clear H0 H1 H2 H3 H4 H5
              go_wp2_with fail
              clear K1c0 K1c1 K1c2
              clear d0 d1 d2 d3 d4 d5
              go_loopg [3, 4, 5] ws.length (fun kq v3 v4 v5 wr => ∃ i : Nat, v5 = .int .i64 i ∧ i + kq = ws.length ∧ v3 = .int .i64 ((clus (ws.take i)).length : Nat) ∧ Aside0 (GRow w wr v4 ((ws.take i).map (·.f0))) ∧ Aside0 ((ws.take i).any badW = false) ∧ Aside0 (wr.heap[b1]? = some (.cells #[.int .i64 b, .int .i64 d, .slice A ws.length c] 43 (0, 0))) ∧ Aside0 (Below w.heap.size w wr))
              case atStart => exact ⟨0, rfl, by omega, rfl, ⟨OwnRow.none_ _ _ _ _ _⟩, ⟨rfl⟩, K1, HB⟩
              case round =>
                clear K1 HB
                obtain ⟨i, rfl, hi, rfl, HG, HN, K1, HB⟩ := hrel
                by_cases hlt : i < ws.length
                ·
                  have hlt' : (i : Int) < (ws.length : Int) := by omega
                  obtain ⟨ad, A0, c0, A1, c1, ea, y0, y1, y2, l0, g0, l1, g1⟩ := at_T51 (Kd.C_below HCC.out HB.out) i (by omega) hlt'
                  subst ea
                  rw [at51 ws hlt] at y0 y1 y2 l0 g0 l1 g1
                  simp only [Int.toNat_natCast] at y0 y1 y2
                  have HK0 : Aside0 ((Kd.slice 3 (Kd.int .i64)).K w ws[i].f0 [.slice A0 ws[i].f0.length c0]) := ⟨by
                    obtain ⟨ad', A0', c0', A1', c1', ea', y0', y1', y2', l0', g0', l1', g1'⟩ := at_T51 HCC.out i (by omega) hlt'
                    cases ea'
                    rw [at51 ws hlt] at y0' l0' g0'
                    simp only [Int.toNat_natCast] at y0'
                    have e := (pw_cell_below HB.out y0').symm.trans y0
                    simp only [Option.some.injEq, Value.slice.injEq] at e
                    obtain ⟨rfl, _, rfl⟩ := e
                    exact ⟨A0', c0', rfl, l0', g0'⟩⟩
                  have HTK := Aside0.mk (any_take badW ws i hlt)
                  have HBW : Aside0 (badW ws[i] = true → checkF b d ws = 2) := ⟨fun h => check_b (List.any_eq_true.2 ⟨_, List.getElem_mem hlt, h⟩)⟩
                  have HG1 := Aside0.mk g1
                  have hm1 := g1.2.1
                  have HCS := Aside0.mk (clus_snoc ws hlt)
                  have hcl := clus_le ws (i + 1)
                  rw [HCS.out, List.length_append] at hcl
                  have hza := HZ.out.all
                  have HMP : Aside0 ((ws.take (i + 1)).map (·.f0) = (ws.take i).map (·.f0) ++ [ws[i].f0]) := ⟨by rw [List.take_succ_eq_append_getElem hlt, List.map_append]; rfl⟩
                  have hri := HZ.out.rows _ (List.getElem_mem hlt)
                  have hmpl : ((ws.take i).map (·.f0)).length ≤ 10000 := by rw [List.length_map]; exact Nat.le_trans (List.length_take_le _ _) (Nat.le_trans (Nat.le_of_lt hlt) HZ.out.n)
                  generalize (ws.take i).map (·.f0) = gs at HG HMP hmpl
                  generalize hnn : (clus (ws.take i)).length = n at *
                  have HNN := Aside0.mk hnn
                  clear hnn g0 g1
                  generalize ws[i] = x at y0 y1 y2 l0 l1 HTK HBW HG1 hm1 HCS hcl HMP hri HK0
                  have K1c0 := (blk_cell K1.out 0).trans (show _ = some (.int .i64 b) from rfl)
                  have K1c1 := (blk_cell K1.out 1).trans (show _ = some (.int .i64 d) from rfl)
                  have K1c2 := (blk_cell K1.out 2).trans (show _ = some (.slice (some ad) ws.length c) from rfl)
                  go_upto_region 9 with fail
                  clear K1c0 K1c1 K1c2
                  clear y0 y1 y2
                  have hbx : Below wr.heap.size wr (wr.alloc (Obj.cells #[.slice A0 x.f0.length c0, .slice A1 x.f1.length c1, .int .i64 x.f2] 51)) := (Below.refl _ wr).alloc (Nat.le_refl _) _
                  have K2 := Aside0.mk (grown_new (w := wr) #[.slice A0 x.f0.length c0, .slice A1 x.f1.length c1, .int .i64 x.f2] 51)
                  obtain ⟨b2, hb2⟩ : ∃ b, wr.heap.size = b := ⟨_, rfl⟩
                  replace K1 := Aside0.mk (blk_below K1.out hbx)
                  replace HG := Aside0.mk (HG.out.below hbx)
                  replace HG1 := Aside0.mk (Kd.C_below HG1.out hbx)
                  replace HB := Aside0.mk (HB.out.trans (hbx.mono HB.out.size))
                  clear hbx
                  generalize wr.alloc (Obj.cells #[.slice A0 x.f0.length c0, .slice A1 x.f1.length c1, .int .i64 x.f2] 51) = w5 at *
                  rw [hb2] at K2 ⊢
                  clear hb2
                  have K2c0 := (blk_cell K2.out 0).trans (show _ = some (.slice A0 x.f0.length c0) from rfl)
                  have K2c1 := (blk_cell K2.out 1).trans (show _ = some (.slice A1 x.f1.length c1) from rfl)
                  have K2c2 := (blk_cell K2.out 2).trans (show _ = some (.int .i64 x.f2) from rfl)
                  by_cases h6 : x.f2 < 0
                  ·
                    have d6 : decide (x.f2 < 0) = true := decide_eq_true h6
                    have HF : Aside0 (checkF b d ws = 2) := ⟨HBW.out (badW_of (.inl (fun h => by omega)))⟩
                    clear h6
                    go_wp2_with fail
                    go_ret
                    exact ⟨by rw [HF.out]; try rfl, HB.out⟩
                  ·
                    have d6 : decide (x.f2 < 0) = false := decide_eq_false h6
                    have H6 := Aside0.mk h6
                    clear h6
                    by_cases h7 : 1048576 < x.f2
                    ·
                      have d7 : decide (1048576 < x.f2) = true := decide_eq_true h7
                      have HF : Aside0 (checkF b d ws = 2) := ⟨HBW.out (badW_of (.inl (fun h => by omega)))⟩
                      clear h7
                      go_wp2_with fail
                      go_ret
                      exact ⟨by rw [HF.out]; try rfl, HB.out⟩
                    ·
                      have d7 : decide (1048576 < x.f2) = false := decide_eq_false h7
                      have H7 := Aside0.mk h7
                      clear h7
                      by_cases h8 : x.f1.length = 0
                      ·
                        have d8 : ((x.f1.length : Int) == 0) = true := by simpa using h8
                        have HF : Aside0 (checkF b d ws = 2) := ⟨HBW.out (badW_of (.inr (.inl h8)))⟩
                        clear h8
                        go_wp2_with fail
                        go_ret
                        exact ⟨by rw [HF.out]; try rfl, HB.out⟩
                      ·
                        have d8 : ((x.f1.length : Int) == 0) = false := by simpa using h8
                        have H8 := Aside0.mk h8
                        clear h8
                        have HR6 : Aside0 (0 ≤ x.f2 ∧ x.f2 ≤ 1048576) := ⟨by have := H6.out; have := H7.out; omega⟩
                        clear H6 H7
                        go_wp2_with fail
                        clear K2c0 K2c1 K2c2
                        clear d6 d7 d8
                        go_loopg [7] x.f1.length (fun kq v7 ws2 => ∃ k : Nat, v7 = .int .i64 k ∧ k + kq = x.f1.length ∧ Aside0 ((x.f1.take k).any oddB = false) ∧ Aside0 ((Kd.int .i64).C ws2 A1 x.f1.length x.f1) ∧ Aside0 (GRow w ws2 u4 gs) ∧ Aside0 (ws2.heap[b2]? = some (.cells #[.slice A0 x.f0.length c0, .slice A1 x.f1.length c1, .int .i64 x.f2] 51 (0, 0))) ∧ Aside0 (ws2.heap[b1]? = some (.cells #[.int .i64 b, .int .i64 d, .slice (some ad) ws.length c] 43 (0, 0))) ∧ Aside0 (Below w.heap.size w ws2))
                        case atStart => exact ⟨0, rfl, by omega, ⟨rfl⟩, HG1, HG, K2, K1, HB⟩
                        case round =>
                          clear HG1 HG K2 K1 HB
                          obtain ⟨k, rfl, hk, HO, HG1, HG, K2, K1, HB⟩ := hrel
                          by_cases hlk : k < x.f1.length
                          ·
                            have hlk' : (k : Int) < (x.f1.length : Int) := by omega
                            obtain ⟨pd, ep, z0⟩ := Kd.at_int HG1.out k (by omega) hlk'
                            subst ep
                            simp only [Int.toNat_natCast] at z0
                            rw [rd_at x.f1 hlk] at z0
                            have HOT := Aside0.mk (any_take oddB x.f1 k hlk)
                            have HOA : Aside0 (oddB x.f1[k] = true → checkF b d ws = 2) := ⟨fun h => HBW.out (badW_of (.inr (.inr (List.any_eq_true.2 ⟨_, List.getElem_mem hlk, h⟩))))⟩
                            generalize x.f1[k] = y at z0 HOT HOA
                            have K2c0 := (blk_cell K2.out 0).trans (show _ = some (.slice A0 x.f0.length c0) from rfl)
                            have K2c1 := (blk_cell K2.out 1).trans (show _ = some (.slice (some pd) x.f1.length c1) from rfl)
                            have K2c2 := (blk_cell K2.out 2).trans (show _ = some (.int .i64 x.f2) from rfl)
                            by_cases h9 : y < 0
                            ·
                              have d9 : decide (y < 0) = true := decide_eq_true h9
                              have HF : Aside0 (checkF b d ws = 2) := ⟨HOA.out (by unfold oddB inB; rw [decide_eq_false (by omega)]; rfl)⟩
                              clear h9
                              go_wp2_with fail
                              go_ret
                              exact ⟨by rw [HF.out]; try rfl, HB.out⟩
                            ·
                              have d9 : decide (y < 0) = false := decide_eq_false h9
                              by_cases h10 : 1048575 < y
                              ·
                                have d10 : decide (1048575 < y) = true := decide_eq_true h10
                                have HF : Aside0 (checkF b d ws = 2) := ⟨HOA.out (by unfold oddB inB; rw [decide_eq_false (by omega)]; rfl)⟩
                                clear h9 h10
                                go_wp2_with fail
                                go_ret
                                exact ⟨by rw [HF.out]; try rfl, HB.out⟩
                              ·
                                have d10 : decide (1048575 < y) = false := decide_eq_false h10
                                have HO2 : Aside0 ((x.f1.take (k + 1)).any oddB = false) := ⟨by rw [HOT.out, HO.out]; unfold oddB inB; rw [decide_eq_true (by omega)]; rfl⟩
                                clear h9 h10
                                go_wp2_with fail
                                go_roundg (x.f1.length - (k + 1))
                                case measure => omega
                                case rel => exact ⟨k + 1, by go_num, by omega, HO2, HG1, HG, K2, K1, HB⟩
                          ·
                            have HOD : Aside0 (x.f1.any oddB = false) := ⟨by
                              have hf := HO.out
                              rwa [List.take_of_length_le (by omega)] at hf⟩
                            have HN2 : Aside0 ((ws.take (i + 1)).any badW = false) := ⟨by rw [HTK.out, HN.out, badW_not HR6.out H8.out HOD.out]; rfl⟩
                            have hge : decide (k < x.f1.length) = false := decide_eq_false hlk
                            have HLN : Aside0 ((clus (ws.take (i + 1))).length = n + x.f1.length) := ⟨by rw [HCS.out, List.length_append, HNN.out]⟩
                            clear hk hlk HO HTK HBW HOD
                            have K2c0 := (blk_cell K2.out 0).trans (show _ = some (.slice A0 x.f0.length c0) from rfl)
                            have K2c1 := (blk_cell K2.out 1).trans (show _ = some (.slice A1 x.f1.length c1) from rfl)
                            have K2c2 := (blk_cell K2.out 2).trans (show _ = some (.int .i64 x.f2) from rfl)
                            go_wp2_with ((with_reducible refine gate_builtin (b := .append) (xs := #[.tmp 94, .tmp 97]) rfl ?_); at_builtin; refine OwnRow.append (R := (Kd.slice 3 (Kd.int .i64)).K w) (w0 := w) w.heap.size rfl (.tmp 94) (.tmp 97) 22 25 (.slice none 0 0) 1 24 rfl Try.underlying22 info25 rfl (by decide) (by decide) u4 gs x.f0 [.slice A0 x.f0.length c0] rfl rfl ?aP rfl ?aI ?aO ?aB ?aS ?aL ?_; (case aP => exact HK0.out); (case aI => exact fun u hu => by rw [List.mem_singleton.1 hu]; rfl); (case aO => exact HG.out); (case aB => exact HB.out); (case aS => exact HB.out.size); (case aL => omega); intro v6 w6 ho6 hb6 hg6 hat6; have HO6 := Aside0.mk ho6; have HB6 := Aside0.mk hb6; have K16 := Aside0.mk (blk_grown K1.out hg6 (fun e => by have h := own_typed HG.out.choose_spec.1 _ e.symm; obtain ⟨cells, hc⟩ := h; rw [K1.out] at hc; cases hc)); clear ho6 hb6 hg6 hat6)
                            rw [← HMP.out] at HO6
                            go_roundg (ws.length - (i + 1))
                            case measure => omega
                            case rel => exact ⟨i + 1, by go_num, by omega, by rw [HLN.out]; go_num, HO6, HN2, K16, HB6⟩
                ·
                  have et : ws.take i = ws := List.take_of_length_le (by omega)
                  have HNA : Aside0 (ws.any badW = false) := ⟨by
                    have hf := HN.out
                    rwa [et] at hf⟩
                  rw [et] at HG ⊢
                  have HF := Aside0.mk (check_n HR1.out.1 HR1.out.2.1 HR1.out.2.2 HNA.out)
                  have hge : decide (i < ws.length) = false := decide_eq_false hlt
                  have hza := HZ.out.all
                  clear HN hi hlt et
                  obtain ⟨n, hn⟩ : ∃ n, (clus ws).length = n := ⟨_, rfl⟩
                  have HNN := Aside0.mk hn
                  rw [hn] at HF hza ⊢
                  clear hn
                  by_cases h11 : 65535 < n
                  ·
                    have h11' : (65535 : Int) < (n : Int) := by omega
                    replace HF : Aside0 (checkF b d ws = 112) := ⟨by rw [HF.out, if_pos h11]⟩
                    clear h11
                    have K1c0 := (blk_cell K1.out 0).trans (show _ = some (.int .i64 b) from rfl)
                    have K1c1 := (blk_cell K1.out 1).trans (show _ = some (.int .i64 d) from rfl)
                    have K1c2 := (blk_cell K1.out 2).trans (show _ = some (.slice A ws.length c) from rfl)
                    go_wp2_with fail
                    go_ret
                    exact ⟨by rw [HF.out]; try rfl, HB.out⟩
                  ·
                    have h11' : (n : Int) ≤ 65535 := by omega
                    replace HF : Aside0 (checkF b d ws = if ¬ (clus ws).Nodup then 113 else Wv.ordE (ws.map (·.f0))) := ⟨by rw [HF.out, if_neg h11]⟩
                    clear h11
                    have K1c0 := (blk_cell K1.out 0).trans (show _ = some (.int .i64 b) from rfl)
                    have K1c1 := (blk_cell K1.out 1).trans (show _ = some (.int .i64 d) from rfl)
                    have K1c2 := (blk_cell K1.out 2).trans (show _ = some (.slice A ws.length c) from rfl)
                    go_wp2_with fail
                    clear K1c0 K1c1 K1c2
                    go_loopg [8, 9] ws.length (fun kq v8 v9 wr2 => ∃ i : Nat, v8 = .int .i64 i ∧ i + kq = ws.length ∧ Aside0 (∀ q ∈ clus (ws.take i), (clus ws).count q ≤ 1) ∧ Aside0 (GRow w wr2 u4 (ws.map (·.f0))) ∧ Aside0 (wr2.heap[b1]? = some (.cells #[.int .i64 b, .int .i64 d, .slice A ws.length c] 43 (0, 0))) ∧ Aside0 (Below w.heap.size w wr2))
                    case atStart => exact ⟨0, rfl, by omega, ⟨fun q hq => by simp [clus] at hq⟩, HG, K1, HB⟩
                    case round =>
                      clear HG K1 HB hge
                      obtain ⟨i, rfl, hi, HQ, HG, K1, HB⟩ := hrel
                      by_cases hlt : i < ws.length
                      ·
                        have hlt' : (i : Int) < (ws.length : Int) := by omega
                        have HCS := Aside0.mk (clus_snoc ws hlt)
                        obtain ⟨adw, A1, c1, ea, HY, hl1, HG1⟩ : ∃ adw A1 c1, A = some adw ∧ Aside0 (∀ W, Below w.heap.size w W → W.cell? ⟨(adw.add (i * 3)).block, (adw.add (i * 3)).off + 1, none⟩ = some (.slice A1 ws[i].f1.length c1)) ∧ ws[i].f1.length ≤ c1 ∧ Aside0 ((Kd.int .i64).C w A1 ws[i].f1.length ws[i].f1) := by
                          obtain ⟨ad', A0', c0', A1', c1', ea', y0', y1', y2', l0', g0', l1', g1'⟩ := at_T51 HCC.out i (by omega) hlt'
                          rw [at51 ws hlt] at y1' l1' g1'
                          simp only [Int.toNat_natCast] at y1'
                          exact ⟨ad', A1', c1', ea', ⟨fun W hW => pw_cell_below hW y1'⟩, l1', ⟨g1'⟩⟩
                        subst ea
                        have HCC := HCC
                        have HMW : Aside0 (∀ q ∈ ws[i].f1, q ∈ clus ws) := ⟨fun q hq => List.mem_flatMap.2 ⟨_, List.getElem_mem hlt, hq⟩⟩
                        have hm1 := HG1.out.2.1
                        generalize ws[i] = x at HY hl1 HG1 HCS HMW hm1
                        have K1c0 := (blk_cell K1.out 0).trans (show _ = some (.int .i64 b) from rfl)
                        have K1c1 := (blk_cell K1.out 1).trans (show _ = some (.int .i64 d) from rfl)
                        have K1c2 := (blk_cell K1.out 2).trans (show _ = some (.slice (some adw) ws.length c) from rfl)
                        have yy := HY.out _ HB.out
                        go_wp2_with fail
                        clear K1c0 K1c1 K1c2 yy
                        go_loopg [9] x.f1.length (fun kq v9 wr3 => ∃ k : Nat, v9 = .int .i64 k ∧ k + kq = x.f1.length ∧ Aside0 (∀ q ∈ x.f1.take k, (clus ws).count q ≤ 1) ∧ Aside0 (GRow w wr3 u4 (ws.map (·.f0))) ∧ Aside0 (wr3.heap[b1]? = some (.cells #[.int .i64 b, .int .i64 d, .slice (some adw) ws.length c] 43 (0, 0))) ∧ Aside0 (Below w.heap.size w wr3))
                        case atStart => exact ⟨0, rfl, by omega, ⟨fun q hq => by simp at hq⟩, HG, K1, HB⟩
                        case round =>
                          clear HG K1 HB
                          obtain ⟨k, rfl, hk, HQ2, HG, K1, HB⟩ := hrel
                          by_cases hlk : k < x.f1.length
                          ·
                            have hlk' : (k : Int) < (x.f1.length : Int) := by omega
                            obtain ⟨pd, ep, z0⟩ := Kd.at_int HG1.out k (by omega) hlk'
                            subst ep
                            simp only [Int.toNat_natCast] at z0
                            rw [rd_at x.f1 hlk] at z0
                            have HZ0 : Aside0 (∀ W, Below w.heap.size w W → W.cell? (pd.add k) = some (.int .i64 x.f1[k])) := ⟨fun W hW => pw_cell_below hW z0⟩
                            have HQK : Aside0 ((clus ws).count x.f1[k] ≤ 1 → ∀ q ∈ x.f1.take (k + 1), (clus ws).count q ≤ 1) := ⟨fun h q hq => by
                              rw [List.take_succ_eq_append_getElem hlk] at hq
                              rcases List.mem_append.1 hq with hq | hq
                              · exact HQ2.out q hq
                              · rw [List.mem_singleton.1 hq]; exact h⟩
                            clear z0
                            generalize x.f1[k] = y at HZ0 HQK
                            have yy := HY.out _ HB.out
                            have zz := HZ0.out _ HB.out
                            have K1c0 := (blk_cell K1.out 0).trans (show _ = some (.int .i64 b) from rfl)
                            have K1c1 := (blk_cell K1.out 1).trans (show _ = some (.int .i64 d) from rfl)
                            have K1c2 := (blk_cell K1.out 2).trans (show _ = some (.slice (some adw) ws.length c) from rfl)
                            go_upto_region 26 with fail
                            clear K1c0 K1c1 K1c2
                            clear yy zz
                            have HD : Aside0 (Below wr.heap.size wr wr.drew) := ⟨(Below.refl _ _).drew⟩
                            have HC : Aside0 (∀ W, Below wr.heap.size wr W → W.cell? ⟨b1, 0, none⟩ = some (.int .i64 b) ∧ W.cell? ⟨b1, 1, none⟩ = some (.int .i64 d) ∧ W.cell? ⟨b1, 2, none⟩ = some (.slice (some adw) ws.length c) ∧ W.cell? ⟨(adw.add (i * 3)).block, (adw.add (i * 3)).off + 1, none⟩ = some (.slice (some pd) x.f1.length c1) ∧ W.cell? (pd.add k) = some (.int .i64 y)) := ⟨fun W hW => ⟨(blk_cell (blk_below K1.out hW) 0).trans rfl, (blk_cell (blk_below K1.out hW) 1).trans rfl, (blk_cell (blk_below K1.out hW) 2).trans rfl, HY.out W (HB.out.trans (hW.mono HB.out.size)), HZ0.out W (HB.out.trans (hW.mono HB.out.size))⟩⟩
                            refine start_ (n := 12) (S := fun w' => w'.cell? ⟨b1, 0, none⟩ = some (.int .i64 b) ∧ w'.cell? ⟨b1, 1, none⟩ = some (.int .i64 d) ∧ w'.cell? ⟨b1, 2, none⟩ = some (.slice (some adw) ws.length c) ∧ w'.cell? ⟨(adw.add (i * 3)).block, (adw.add (i * 3)).off + 1, none⟩ = some (.slice (some pd) x.f1.length c1) ∧ w'.cell? (pd.add k) = some (.int .i64 y)) (ds := []) #[false, false, false, false, false, false, false, false, false, false, false, false] (by kernel_rfl) rfl rfl (HC.out _ HD.out) (fun hHeld => ?_)
                            refine pure_ (i := 1) (N := some 120) (v := ?_) (a' := ?_) #[false, true, false, false, false, false, false, false, false, false, false, false] rfl rfl (by kernel_rfl) (fun _ _ _ h => h) (Or.inl ⟨by rfl, ?_⟩) ?_ ?_
                            rotate_left
                            · intro w'
                              go_simp
                              with_reducible rfl
                            rotate_left
                            · simp only [Act.put, List.setIfInBounds_toArray, List.set_cons_zero, List.set_cons_succ, i64_w, i32_w]
                              rfl
                            refine pure_ (i := 3) (N := some 122) (v := ?_) (a' := ?_) #[false, true, false, true, false, false, false, false, false, false, false, false] rfl rfl (by kernel_rfl) (fun _ _ _ h => h) (Or.inl ⟨by rfl, ?_⟩) ?_ ?_
                            rotate_left
                            · intro w'
                              go_simp
                              with_reducible rfl
                            rotate_left
                            · simp only [Act.put, List.setIfInBounds_toArray, List.set_cons_zero, List.set_cons_succ, i64_w, i32_w]
                              rfl
                            refine pure_ (i := 7) (N := some 126) (v := ?_) (a' := ?_) #[false, true, false, true, false, false, false, true, false, false, false, false] rfl rfl (by kernel_rfl) (fun _ _ _ h => h) (Or.inl ⟨by rfl, ?_⟩) ?_ ?_
                            rotate_left
                            · intro w'
                              go_simp
                              with_reducible rfl
                            rotate_left
                            · simp only [Act.put, List.setIfInBounds_toArray, List.set_cons_zero, List.set_cons_succ, i64_w, i32_w]
                              rfl
                            refine take_ (i := 0) (N := some 119) (v := ?_) (a' := ?_) #[true, true, false, true, false, false, false, true, false, false, false, false] rfl rfl (by kernel_rfl) (fun _ _ _ h => h) (Or.inl ⟨by rfl, ?_⟩) hHeld ?_ ?_
                            rotate_left
                            · rintro w' ⟨s0, s1, s2, s3, s4⟩
                              go_simp
                              with_reducible rfl
                            rotate_left
                            · simp only [Act.put, List.setIfInBounds_toArray, List.set_cons_zero, List.set_cons_succ, i64_w, i32_w]
                              rfl
                            refine take_ (i := 2) (N := some 121) (v := ?_) (a' := ?_) #[true, true, true, true, false, false, false, true, false, false, false, false] rfl rfl (by kernel_rfl) (fun _ _ _ h => h) (Or.inl ⟨by rfl, ?_⟩) hHeld ?_ ?_
                            rotate_left
                            · rintro w' ⟨s0, s1, s2, s3, s4⟩
                              go_simp
                              with_reducible rfl
                            rotate_left
                            · simp only [Act.put, List.setIfInBounds_toArray, List.set_cons_zero, List.set_cons_succ, i64_w, i32_w]
                              rfl
                            refine pure_ (i := 4) (N := some 123) (v := ?_) (a' := ?_) #[true, true, true, true, true, false, false, true, false, false, false, false] rfl rfl (by kernel_rfl) (fun _ _ _ h => h) (Or.inl ⟨by rfl, ?_⟩) ?_ ?_
                            rotate_left
                            · intro w'
                              go_simp
                              with_reducible rfl
                            rotate_left
                            · simp only [Act.put, List.setIfInBounds_toArray, List.set_cons_zero, List.set_cons_succ, i64_w, i32_w]
                              rfl
                            refine pure_ (i := 5) (N := some 124) (v := ?_) (a' := ?_) #[true, true, true, true, true, true, false, true, false, false, false, false] rfl rfl (by kernel_rfl) (fun _ _ _ h => h) (Or.inl ⟨by rfl, ?_⟩) ?_ ?_
                            rotate_left
                            · intro w'
                              go_simp
                              with_reducible rfl
                            rotate_left
                            · simp only [Act.put, List.setIfInBounds_toArray, List.set_cons_zero, List.set_cons_succ, i64_w, i32_w]
                              rfl
                            refine take_ (i := 6) (N := some 125) (v := ?_) (a' := ?_) #[true, true, true, true, true, true, true, true, false, false, false, false] rfl rfl (by kernel_rfl) (fun _ _ _ h => h) (Or.inl ⟨by rfl, ?_⟩) hHeld ?_ ?_
                            rotate_left
                            · rintro w' ⟨s0, s1, s2, s3, s4⟩
                              go_simp
                              with_reducible rfl
                            rotate_left
                            · simp only [Act.put, List.setIfInBounds_toArray, List.set_cons_zero, List.set_cons_succ, i64_w, i32_w]
                              rfl
                            refine pure_ (i := 8) (N := some 127) (v := ?_) (a' := ?_) #[true, true, true, true, true, true, true, true, true, false, false, false] rfl rfl (by kernel_rfl) (fun _ _ _ h => h) (Or.inl ⟨by rfl, ?_⟩) ?_ ?_
                            rotate_left
                            · intro w'
                              go_simp
                              with_reducible rfl
                            rotate_left
                            · simp only [Act.put, List.setIfInBounds_toArray, List.set_cons_zero, List.set_cons_succ, i64_w, i32_w]
                              rfl
                            refine take_ (i := 9) (N := some 128) (v := ?_) (a' := ?_) #[true, true, true, true, true, true, true, true, true, true, false, false] rfl rfl (by kernel_rfl) (fun _ _ _ h => h) (Or.inl ⟨by rfl, ?_⟩) hHeld ?_ ?_
                            rotate_left
                            · rintro w' ⟨s0, s1, s2, s3, s4⟩
                              go_simp
                              with_reducible rfl
                            rotate_left
                            · simp only [Act.put, List.setIfInBounds_toArray, List.set_cons_zero, List.set_cons_succ, i64_w, i32_w]
                              rfl
                            refine one_ (i := 10) (N := some 129) #[true, true, true, true, true, true, true, true, true, true, true, false] rfl rfl (by kernel_rfl) (by decide) (fun K hK => ?_)
                            refine goes_ Try.func36 (by kernel_rfl) rfl #[.agg #[.int .i64 b, .int .i64 d, .slice (some adw) ws.length c], .int .i64 y] (by rfl) rfl rfl (by (try simp only [List.map_toArray, List.map_cons, List.map_nil]); first | done | rfl) ?_
                            refine (count_calls b d (some adw) c ws y wr.drew (Kd.C_below HCC.out (HB.out.trans (HD.out.mono HB.out.size))) hcap HZ.out).mono ?_
                            rintro e w7 ⟨rfl, hb⟩
                            refine ⟨_, rfl, ?_⟩
                            replace HD := Aside0.mk (HD.out.trans (hb.mono HD.out.size))
                            clear hb
                            refine hK.out _ _ (HC.out _ HD.out) (fun hHeld => ?_)
                            clear hK K
                            refine norm_ (a' := ?_) ?_ ?_
                            rotate_left
                            · show Act.put _ (some 129) _ = _
                              simp only [Act.put, List.setIfInBounds_toArray, List.set_cons_zero, List.set_cons_succ, i64_w, i32_w]
                              rfl
                            refine pure_ (i := 11) (N := some 130) (v := ?_) (a' := ?_) #[true, true, true, true, true, true, true, true, true, true, true, true] rfl rfl (by kernel_rfl) (fun _ _ _ h => h) (Or.inl ⟨by rfl, ?_⟩) ?_ ?_
                            rotate_left
                            · intro w'
                              go_simp
                              with_reducible rfl
                            rotate_left
                            · simp only [Act.put, List.setIfInBounds_toArray, List.set_cons_zero, List.set_cons_succ, i64_w, i32_w]
                              rfl
                            refine done_ (by kernel_rfl) ?_
                            have hb := HD.out
                            clear HD HC hHeld
                            replace K1 := Aside0.mk (blk_below K1.out hb)
                            replace HG := Aside0.mk (HG.out.below hb)
                            replace HB := Aside0.mk (HB.out.trans (hb.mono HB.out.size))
                            clear hb
                            generalize hct : (clus ws).count y = ct at *
                            by_cases h12 : 1 < ct
                            ·
                              have h12' : (1 : Int) < (ct : Int) := by omega
                              replace HF : Aside0 (checkF b d ws = 113) := ⟨by rw [HF.out, if_pos (not_nodup (by rw [hct]; exact h12))]⟩
                              clear h12 hct
                              go_wp2_with fail
                              go_ret
                              exact ⟨by rw [HF.out]; try rfl, HB.out⟩
                            ·
                              have h12' : (ct : Int) ≤ 1 := by omega
                              have HQ3 := Aside0.mk (HQK.out (by omega))
                              clear h12 hct
                              go_wp2_with fail
                              go_roundg (x.f1.length - (k + 1))
                              case measure => omega
                              case rel => exact ⟨k + 1, by go_num, by omega, HQ3, HG, K1, HB⟩
                          ·
                            have hge2 : decide (k < x.f1.length) = false := decide_eq_false hlk
                            have HQ3 : Aside0 (∀ q ∈ clus (ws.take (i + 1)), (clus ws).count q ≤ 1) := ⟨fun q hq => by
                              rw [HCS.out] at hq
                              rcases List.mem_append.1 hq with hq | hq
                              · exact HQ.out q hq
                              · exact HQ2.out q (by rwa [List.take_of_length_le (by omega)])⟩
                            have yy := HY.out _ HB.out
                            clear hk hlk
                            have K1c0 := (blk_cell K1.out 0).trans (show _ = some (.int .i64 b) from rfl)
                            have K1c1 := (blk_cell K1.out 1).trans (show _ = some (.int .i64 d) from rfl)
                            have K1c2 := (blk_cell K1.out 2).trans (show _ = some (.slice (some adw) ws.length c) from rfl)
                            go_wp2_with fail
                            go_roundg (ws.length - (i + 1))
                            case measure => omega
                            case rel => exact ⟨i + 1, by go_num, by omega, HQ3, HG, K1, HB⟩
                      ·
                        have hge2 : decide (i < ws.length) = false := decide_eq_false hlt
                        have HND : Aside0 ((clus ws).Nodup) := ⟨nodup_of_counts (fun x hx => HQ.out x (by rwa [List.take_of_length_le (by omega)]))⟩
                        replace HF : Aside0 (checkF b d ws = Wv.ordE (ws.map (·.f0))) := ⟨by rw [HF.out, if_neg (fun h => h HND.out)]⟩
                        obtain ⟨Ag, cg, eg, hg1, hg2⟩ := OwnRow.reads HG.out
                        have HGC : Aside0 (Wv.GC wr Ag (ws.map (·.f0))) := ⟨ReadsRow.imp_ hg2 (Below.refl _ _) (fun p c hp => (Kd.slice 3 (Kd.int .i64)).K_below HB.out hp)⟩
                        subst eg
                        clear hi hlt HQ hg2 HG
                        have K1c0 := (blk_cell K1.out 0).trans (show _ = some (.int .i64 b) from rfl)
                        have K1c1 := (blk_cell K1.out 1).trans (show _ = some (.int .i64 d) from rfl)
                        have K1c2 := (blk_cell K1.out 2).trans (show _ = some (.slice A ws.length c) from rfl)
                        go_wp2_with fail
                        clear K1c0 K1c1 K1c2
                        have hrc := rorder_calls Ag cg (ws.map (·.f0)) wr HGC.out hg1 (gsz_of HZ.out)
                        rw [List.length_map] at hrc
                        refine hrc.mono ?_
                        clear hrc
                        rintro e w12 ⟨v, rfl, hb⟩
                        replace K1 := Aside0.mk (blk_below K1.out hb)
                        replace HB := Aside0.mk (HB.out.trans (hb.mono HB.out.size))
                        clear hb
                        go_wp2_with fail
                        go_ret
                        exact ⟨by rw [HF.out]; try rfl, HB.out⟩
end Go.Proofs.Ytkeadpichlgagaa.Pla
namespace Go.Proofs.Ytkeadpichlgagaa.Pla
open Go.RowKit Go.Lib Go.Sort Go.Shelf Go.Proofs.YtkeadpichlgagaaW.PrintWords Go.Proofs.YtkeadpichlgagaaW.PrintLast Go.Proofs.YtkeadpichlgagaaW.PrintMore
open Go.Proofs.Ytkeadpichlgagaa.Pl Go.Proofs.Ytkeadpichlgagaa.PlS Go.Proofs.Ytkeadpichlgagaa.Mp
set_option linter.unusedVariables false
set_option linter.unusedSimpArgs false
set_option linter.unnecessarySimpa false
theorem F_all {k : IntKind} {A : Option Addr} {n : Nat} {xs : List Int} {w : World} (h : (Kd.int k).C w A n xs) : Kd.F (Kd.int k) w (fun _ => True) A n xs := fun W' hW => C_move (d := Kd.int k) h (fun b _ hlt => hW b trivial hlt)
theorem simple_calls (b : Int) (A : Option Addr) (c : Nat) (l : List Int) (w : World) (hC : (Kd.int .i64).C w A l.length l) (hc : l.length ≤ c) :
    Calls Try.prog 77 #[.int .i64 b, .slice A l.length c] w fun e w' => ∃ A2 c2, e = .returned (.agg #[.int .i64 b, .int .i64 0, .slice A2 1 c2]) ∧ 1 ≤ c2 ∧ k51.C w' A2 1 [⟨[], l, 0⟩] ∧ Below w.heap.size w w' := by
  refine (echelonlaw15_simple.calls b (fun _ => True) A c l b 0 [⟨[], l, 0⟩] w (Kd.V_mk hc (F_all hC)) rfl).mono ?_
  rintro e w' ⟨v, rfl, hn, hb⟩
  obtain ⟨A2, c2, rfl, h1, h2⟩ := Kd.N_reads hn
  exact ⟨A2, c2, rfl, h1, h2, hb⟩
theorem C_ws {w : World} {bb : Nat} (ws : List S51) (cs : Array Value) (h : w.heap[bb]? = some (.cells cs 51 (0, 0)))
    (hc : ∀ j p, ws[j]? = some p → ∃ A0 c0 A1 c1, cs[j * 3]? = some (.slice A0 p.f0.length c0) ∧ cs[j * 3 + 1]? = some (.slice A1 p.f1.length c1) ∧ cs[j * 3 + 2]? = some (.int .i64 p.f2) ∧ p.f0.length ≤ c0 ∧ (Kd.int .i64).C w A0 p.f0.length p.f0 ∧ p.f1.length ≤ c1 ∧ (Kd.int .i64).C w A1 p.f1.length p.f1) (hl : ws.length ≤ 1000000) : k51.C w (some ⟨bb, 0, none⟩) ws.length ws := by
  refine ⟨rfl, by omega, fun _ => ⟨_, rfl, fun j p hj => ?_⟩⟩
  obtain ⟨A0, c0, A1, c1, h0, h1, h2, l0, g0, l1, g1⟩ := hc j p hj
  refine ⟨_, rfl, k51_mk w p l0 g0 l1 g1, fun i u hu => ?_⟩
  rw [Addr.add_lit]
  rcases i with _ | _ | _ | i
  · simp at hu; subst hu
    rw [show (0 : Nat) + (j * k51.sz + 0) = j * 3 from by show 0 + (j * 3 + 0) = j * 3; omega, blk_cell h]; exact h0
  · simp at hu; subst hu
    rw [show (0 : Nat) + (j * k51.sz + (0 + 1)) = j * 3 + 1 from by show 0 + (j * 3 + (0 + 1)) = j * 3 + 1; omega, blk_cell h]; exact h1
  · simp at hu; subst hu
    rw [show (0 : Nat) + (j * k51.sz + (0 + 1 + 1)) = j * 3 + 2 from by show 0 + (j * 3 + (0 + 1 + 1)) = j * 3 + 2; omega, blk_cell h]; exact h2
  · simp at hu
theorem C_two (w : World) {b : Nat} {x y : Int} (h : w.heap[b]? = some (.cells #[.int .i64 x, .int .i64 y] 3 (0, 0))) : (Kd.int .i64).C w (some ⟨b, 0, none⟩) 2 [x, y] := C_of_blk (xs := [x, y]) (ys := []) h (by show 2 ≤ _; omega)
theorem C_one (w : World) {b : Nat} {x : Int} (h : w.heap[b]? = some (.cells #[.int .i64 x] 3 (0, 0))) : (Kd.int .i64).C w (some ⟨b, 0, none⟩) 1 [x] := C_of_blk (xs := [x]) (ys := []) h (by show 1 ≤ _; omega)
theorem C_zero (w : World) : (Kd.int .i64).C w none 0 [] := ⟨rfl, by decide, fun h => by simp at h⟩
theorem psz_lit {ws : List S51} (h : sizeN ws ≤ 10000) : Psz ws := psz_of h
theorem chk1 : checkF 2 0 [⟨[], [5, 6], 0⟩] = 0 := by
  rw [check_n (by decide) (by decide) (by decide) (by decide +kernel)]
  rw [if_neg (by decide), if_neg (by decide)]
  decide +kernel
theorem chk2 : checkF 0 0 [⟨[], [5], 0⟩] = 2 := check_a (.inl (by decide))
theorem chk3 : checkF 1 0 [⟨[], [5], 0⟩, ⟨[], [5], 0⟩] = 113 := by
  rw [check_n (by decide) (by decide) (by decide) (by decide +kernel)]
  rw [if_neg (by decide), if_pos (by decide)]
theorem chk4 : checkF 1 0 [⟨[0], [5], 0⟩] = 110 := by
  rw [check_n (by decide) (by decide) (by decide) (by decide +kernel)]
  rw [if_neg (by decide), if_neg (by decide)]
  decide +kernel
set_option maxHeartbeats 4000000 in
set_option maxRecDepth 100000 in
theorem awake_calls (w : World) : Calls Try.prog 27 #[] w fun e w' => e = .returned (.bool true) ∧ Below w.heap.size w w' := by
  have hu51 := Try.underlying51
  have hu43 := Try.underlying43
  have hu25 := Try.underlying25
  have HB : Aside0 (Below w.heap.size w w) := ⟨Below.refl _ _⟩
  go_enter Try.func27, Try.ntmps27
  go_wp2_with fail
  have hbx : Below w.heap.size w (w.alloc (Obj.cells #[.int .i64 5, .int .i64 6] 3)) := (Below.refl _ w).alloc (Nat.le_refl _) _
  have K1 := Aside0.mk (grown_new (w := w) #[.int .i64 5, .int .i64 6] 3)
  replace HB := Aside0.mk (HB.out.trans (hbx.mono HB.out.size))
  clear hbx
  generalize (w.alloc (Obj.cells #[.int .i64 5, .int .i64 6] 3)) = w1 at *
  obtain ⟨b1, hb1⟩ : ∃ b, w.heap.size = b := ⟨_, rfl⟩
  rw [hb1] at K1 ⊢
  clear hb1
  refine (simple_calls 2 (some ⟨b1, 0, none⟩) 2 [5, 6] w1 (C_two _ K1.out) (by decide)).mono ?_
  rintro e w2 ⟨A, c, rfl, hc, hC, hb⟩
  have HP := Aside0.mk hC
  clear hC
  clear K1
  replace HB := Aside0.mk (HB.out.trans (hb.mono HB.out.size))
  clear hb
  go_upto_region 2 with fail
  have hbx : Below w2.heap.size w2 (w2.alloc (Obj.cells #[.int .i64 2, .int .i64 0, .slice A 1 c] 43)) := (Below.refl _ w2).alloc (Nat.le_refl _) _
  have K2 := Aside0.mk (grown_new (w := w2) #[.int .i64 2, .int .i64 0, .slice A 1 c] 43)
  replace HP := Aside0.mk (Kd.C_below HP.out hbx)
  replace HB := Aside0.mk (HB.out.trans (hbx.mono HB.out.size))
  clear hbx
  generalize (w2.alloc (Obj.cells #[.int .i64 2, .int .i64 0, .slice A 1 c] 43)) = w3 at *
  obtain ⟨b2, hb2⟩ : ∃ b, w2.heap.size = b := ⟨_, rfl⟩
  rw [hb2] at K2 ⊢
  clear hb2
  go_upto_region 3 with fail
  have hbx : Below w3.heap.size w3 ((((w3.alloc (Obj.cells #[.int .i64 5] 3)).alloc (Obj.cells #[.int .i64 5] 3)).alloc (Obj.cells #[.slice none 0 0, .slice (some ⟨w3.heap.size, 0, none⟩) 1 1, .int .i64 0, .slice none 0 0, .slice (some ⟨w3.heap.size + 1, 0, none⟩) 1 1, .int .i64 0] 51)).alloc (Obj.cells #[.int .i64 1, .int .i64 0, .slice (some ⟨w3.heap.size + 1 + 1, 0, none⟩) 2 2] 43)) := ((((Below.refl _ w3).alloc (Nat.le_refl _) _).alloc (by simp only [World.size_alloc]; omega) _).alloc (by simp only [World.size_alloc]; omega) _).alloc (by simp only [World.size_alloc]; omega) _
  have K3 := Aside0.mk (blk_alloc (blk_alloc (blk_alloc (grown_new (w := w3) #[.int .i64 5] 3) (Obj.cells #[.int .i64 5] 3)) (Obj.cells #[.slice none 0 0, .slice (some ⟨w3.heap.size, 0, none⟩) 1 1, .int .i64 0, .slice none 0 0, .slice (some ⟨w3.heap.size + 1, 0, none⟩) 1 1, .int .i64 0] 51)) (Obj.cells #[.int .i64 1, .int .i64 0, .slice (some ⟨w3.heap.size + 1 + 1, 0, none⟩) 2 2] 43))
  have K4 := Aside0.mk (blk_alloc (blk_alloc (grown_new (w := (w3.alloc (Obj.cells #[.int .i64 5] 3))) #[.int .i64 5] 3) (Obj.cells #[.slice none 0 0, .slice (some ⟨w3.heap.size, 0, none⟩) 1 1, .int .i64 0, .slice none 0 0, .slice (some ⟨w3.heap.size + 1, 0, none⟩) 1 1, .int .i64 0] 51)) (Obj.cells #[.int .i64 1, .int .i64 0, .slice (some ⟨w3.heap.size + 1 + 1, 0, none⟩) 2 2] 43))
  simp only [World.size_alloc] at K4
  have K5 := Aside0.mk (blk_alloc (grown_new (w := ((w3.alloc (Obj.cells #[.int .i64 5] 3)).alloc (Obj.cells #[.int .i64 5] 3))) #[.slice none 0 0, .slice (some ⟨w3.heap.size, 0, none⟩) 1 1, .int .i64 0, .slice none 0 0, .slice (some ⟨w3.heap.size + 1, 0, none⟩) 1 1, .int .i64 0] 51) (Obj.cells #[.int .i64 1, .int .i64 0, .slice (some ⟨w3.heap.size + 1 + 1, 0, none⟩) 2 2] 43))
  simp only [World.size_alloc] at K5
  have K6 := Aside0.mk (grown_new (w := (((w3.alloc (Obj.cells #[.int .i64 5] 3)).alloc (Obj.cells #[.int .i64 5] 3)).alloc (Obj.cells #[.slice none 0 0, .slice (some ⟨w3.heap.size, 0, none⟩) 1 1, .int .i64 0, .slice none 0 0, .slice (some ⟨w3.heap.size + 1, 0, none⟩) 1 1, .int .i64 0] 51))) #[.int .i64 1, .int .i64 0, .slice (some ⟨w3.heap.size + 1 + 1, 0, none⟩) 2 2] 43)
  simp only [World.size_alloc] at K6
  replace K2 := Aside0.mk (blk_below K2.out hbx)
  replace HP := Aside0.mk (Kd.C_below HP.out hbx)
  replace HB := Aside0.mk (HB.out.trans (hbx.mono HB.out.size))
  clear hbx
  generalize ((((w3.alloc (Obj.cells #[.int .i64 5] 3)).alloc (Obj.cells #[.int .i64 5] 3)).alloc (Obj.cells #[.slice none 0 0, .slice (some ⟨w3.heap.size, 0, none⟩) 1 1, .int .i64 0, .slice none 0 0, .slice (some ⟨w3.heap.size + 1, 0, none⟩) 1 1, .int .i64 0] 51)).alloc (Obj.cells #[.int .i64 1, .int .i64 0, .slice (some ⟨w3.heap.size + 1 + 1, 0, none⟩) 2 2] 43)) = w4 at *
  obtain ⟨b6, hb6⟩ : ∃ b, w3.heap.size + 1 + 1 + 1 = b := ⟨_, rfl⟩
  rw [hb6] at K6 ⊢
  clear hb6
  obtain ⟨b5, hb5⟩ : ∃ b, w3.heap.size + 1 + 1 = b := ⟨_, rfl⟩
  rw [hb5] at K5 K6 ⊢
  clear hb5
  obtain ⟨b4, hb4⟩ : ∃ b, w3.heap.size + 1 = b := ⟨_, rfl⟩
  rw [hb4] at K4 K5 ⊢
  clear hb4
  obtain ⟨b3, hb3⟩ : ∃ b, w3.heap.size = b := ⟨_, rfl⟩
  rw [hb3] at K3 K5 ⊢
  clear hb3
  go_upto_region 4 with fail
  have hbx : Below w4.heap.size w4 ((((w4.alloc (Obj.cells #[.int .i64 5] 3)).alloc (Obj.cells #[.int .i64 0] 3)).alloc (Obj.cells #[.slice (some ⟨w4.heap.size + 1, 0, none⟩) 1 1, .slice (some ⟨w4.heap.size, 0, none⟩) 1 1, .int .i64 0] 51)).alloc (Obj.cells #[.int .i64 1, .int .i64 0, .slice (some ⟨w4.heap.size + 1 + 1, 0, none⟩) 1 1] 43)) := ((((Below.refl _ w4).alloc (Nat.le_refl _) _).alloc (by simp only [World.size_alloc]; omega) _).alloc (by simp only [World.size_alloc]; omega) _).alloc (by simp only [World.size_alloc]; omega) _
  have K7 := Aside0.mk (blk_alloc (blk_alloc (blk_alloc (grown_new (w := w4) #[.int .i64 5] 3) (Obj.cells #[.int .i64 0] 3)) (Obj.cells #[.slice (some ⟨w4.heap.size + 1, 0, none⟩) 1 1, .slice (some ⟨w4.heap.size, 0, none⟩) 1 1, .int .i64 0] 51)) (Obj.cells #[.int .i64 1, .int .i64 0, .slice (some ⟨w4.heap.size + 1 + 1, 0, none⟩) 1 1] 43))
  have K8 := Aside0.mk (blk_alloc (blk_alloc (grown_new (w := (w4.alloc (Obj.cells #[.int .i64 5] 3))) #[.int .i64 0] 3) (Obj.cells #[.slice (some ⟨w4.heap.size + 1, 0, none⟩) 1 1, .slice (some ⟨w4.heap.size, 0, none⟩) 1 1, .int .i64 0] 51)) (Obj.cells #[.int .i64 1, .int .i64 0, .slice (some ⟨w4.heap.size + 1 + 1, 0, none⟩) 1 1] 43))
  simp only [World.size_alloc] at K8
  have K9 := Aside0.mk (blk_alloc (grown_new (w := ((w4.alloc (Obj.cells #[.int .i64 5] 3)).alloc (Obj.cells #[.int .i64 0] 3))) #[.slice (some ⟨w4.heap.size + 1, 0, none⟩) 1 1, .slice (some ⟨w4.heap.size, 0, none⟩) 1 1, .int .i64 0] 51) (Obj.cells #[.int .i64 1, .int .i64 0, .slice (some ⟨w4.heap.size + 1 + 1, 0, none⟩) 1 1] 43))
  simp only [World.size_alloc] at K9
  have K10 := Aside0.mk (grown_new (w := (((w4.alloc (Obj.cells #[.int .i64 5] 3)).alloc (Obj.cells #[.int .i64 0] 3)).alloc (Obj.cells #[.slice (some ⟨w4.heap.size + 1, 0, none⟩) 1 1, .slice (some ⟨w4.heap.size, 0, none⟩) 1 1, .int .i64 0] 51))) #[.int .i64 1, .int .i64 0, .slice (some ⟨w4.heap.size + 1 + 1, 0, none⟩) 1 1] 43)
  simp only [World.size_alloc] at K10
  replace K2 := Aside0.mk (blk_below K2.out hbx)
  replace K3 := Aside0.mk (blk_below K3.out hbx)
  replace K4 := Aside0.mk (blk_below K4.out hbx)
  replace K5 := Aside0.mk (blk_below K5.out hbx)
  replace K6 := Aside0.mk (blk_below K6.out hbx)
  replace HP := Aside0.mk (Kd.C_below HP.out hbx)
  replace HB := Aside0.mk (HB.out.trans (hbx.mono HB.out.size))
  clear hbx
  generalize ((((w4.alloc (Obj.cells #[.int .i64 5] 3)).alloc (Obj.cells #[.int .i64 0] 3)).alloc (Obj.cells #[.slice (some ⟨w4.heap.size + 1, 0, none⟩) 1 1, .slice (some ⟨w4.heap.size, 0, none⟩) 1 1, .int .i64 0] 51)).alloc (Obj.cells #[.int .i64 1, .int .i64 0, .slice (some ⟨w4.heap.size + 1 + 1, 0, none⟩) 1 1] 43)) = w5 at *
  obtain ⟨b10, hb10⟩ : ∃ b, w4.heap.size + 1 + 1 + 1 = b := ⟨_, rfl⟩
  rw [hb10] at K10 ⊢
  clear hb10
  obtain ⟨b9, hb9⟩ : ∃ b, w4.heap.size + 1 + 1 = b := ⟨_, rfl⟩
  rw [hb9] at K9 K10 ⊢
  clear hb9
  obtain ⟨b8, hb8⟩ : ∃ b, w4.heap.size + 1 = b := ⟨_, rfl⟩
  rw [hb8] at K8 K9 ⊢
  clear hb8
  obtain ⟨b7, hb7⟩ : ∃ b, w4.heap.size = b := ⟨_, rfl⟩
  rw [hb7] at K7 K9 ⊢
  clear hb7
  have K2c0 := (blk_cell K2.out 0).trans (show _ = some (.int .i64 2) from rfl)
  have K2c1 := (blk_cell K2.out 1).trans (show _ = some (.int .i64 0) from rfl)
  have K2c2 := (blk_cell K2.out 2).trans (show _ = some (.slice A 1 c) from rfl)
  go_wp2_with fail
  refine (check_calls 2 0 A c [⟨[], [5, 6], 0⟩] w5 HP.out hc (psz_lit (by decide))).mono ?_
  rintro e w6 ⟨rfl, hb⟩
  rw [chk1]
  clear K2c0 K2c1 K2c2
  replace K2 := Aside0.mk (blk_below K2.out hb)
  replace K3 := Aside0.mk (blk_below K3.out hb)
  replace K4 := Aside0.mk (blk_below K4.out hb)
  replace K5 := Aside0.mk (blk_below K5.out hb)
  replace K6 := Aside0.mk (blk_below K6.out hb)
  replace K7 := Aside0.mk (blk_below K7.out hb)
  replace K8 := Aside0.mk (blk_below K8.out hb)
  replace K9 := Aside0.mk (blk_below K9.out hb)
  replace K10 := Aside0.mk (blk_below K10.out hb)
  replace HP := Aside0.mk (Kd.C_below HP.out hb)
  replace HB := Aside0.mk (HB.out.trans (hb.mono HB.out.size))
  clear hb
  have K2c0 := (blk_cell K2.out 0).trans (show _ = some (.int .i64 2) from rfl)
  have K2c1 := (blk_cell K2.out 1).trans (show _ = some (.int .i64 0) from rfl)
  have K2c2 := (blk_cell K2.out 2).trans (show _ = some (.slice A 1 c) from rfl)
  go_wp2_with fail
  refine (wave_calls 2 0 A c [⟨[], [5, 6], 0⟩] 6 w6 HP.out hc (psz_lit (by decide))).mono ?_
  rintro e w7 ⟨rfl, hb⟩
  rw [show waveF [⟨[], [5, 6], 0⟩] 6 = 0 from rfl]
  clear K2c0 K2c1 K2c2
  replace K2 := Aside0.mk (blk_below K2.out hb)
  replace K3 := Aside0.mk (blk_below K3.out hb)
  replace K4 := Aside0.mk (blk_below K4.out hb)
  replace K5 := Aside0.mk (blk_below K5.out hb)
  replace K6 := Aside0.mk (blk_below K6.out hb)
  replace K7 := Aside0.mk (blk_below K7.out hb)
  replace K8 := Aside0.mk (blk_below K8.out hb)
  replace K9 := Aside0.mk (blk_below K9.out hb)
  replace K10 := Aside0.mk (blk_below K10.out hb)
  replace HP := Aside0.mk (Kd.C_below HP.out hb)
  replace HB := Aside0.mk (HB.out.trans (hb.mono HB.out.size))
  clear hb
  have K2c0 := (blk_cell K2.out 0).trans (show _ = some (.int .i64 2) from rfl)
  have K2c1 := (blk_cell K2.out 1).trans (show _ = some (.int .i64 0) from rfl)
  have K2c2 := (blk_cell K2.out 2).trans (show _ = some (.slice A 1 c) from rfl)
  go_wp2_with fail
  refine (wave_calls 2 0 A c [⟨[], [5, 6], 0⟩] 7 w7 HP.out hc (psz_lit (by decide))).mono ?_
  rintro e w8 ⟨rfl, hb⟩
  rw [show waveF [⟨[], [5, 6], 0⟩] 7 = -1 from rfl]
  clear K2c0 K2c1 K2c2
  replace K2 := Aside0.mk (blk_below K2.out hb)
  replace K3 := Aside0.mk (blk_below K3.out hb)
  replace K4 := Aside0.mk (blk_below K4.out hb)
  replace K5 := Aside0.mk (blk_below K5.out hb)
  replace K6 := Aside0.mk (blk_below K6.out hb)
  replace K7 := Aside0.mk (blk_below K7.out hb)
  replace K8 := Aside0.mk (blk_below K8.out hb)
  replace K9 := Aside0.mk (blk_below K9.out hb)
  replace K10 := Aside0.mk (blk_below K10.out hb)
  replace HP := Aside0.mk (Kd.C_below HP.out hb)
  replace HB := Aside0.mk (HB.out.trans (hb.mono HB.out.size))
  clear hb
  go_wp2_with fail
  have hbx : Below w8.heap.size w8 (w8.alloc (Obj.cells #[.int .i64 5] 3)) := (Below.refl _ w8).alloc (Nat.le_refl _) _
  have K11 := Aside0.mk (grown_new (w := w8) #[.int .i64 5] 3)
  replace K2 := Aside0.mk (blk_below K2.out hbx)
  replace K3 := Aside0.mk (blk_below K3.out hbx)
  replace K4 := Aside0.mk (blk_below K4.out hbx)
  replace K5 := Aside0.mk (blk_below K5.out hbx)
  replace K6 := Aside0.mk (blk_below K6.out hbx)
  replace K7 := Aside0.mk (blk_below K7.out hbx)
  replace K8 := Aside0.mk (blk_below K8.out hbx)
  replace K9 := Aside0.mk (blk_below K9.out hbx)
  replace K10 := Aside0.mk (blk_below K10.out hbx)
  replace HP := Aside0.mk (Kd.C_below HP.out hbx)
  replace HB := Aside0.mk (HB.out.trans (hbx.mono HB.out.size))
  clear hbx
  generalize (w8.alloc (Obj.cells #[.int .i64 5] 3)) = w9 at *
  obtain ⟨b11, hb11⟩ : ∃ b, w8.heap.size = b := ⟨_, rfl⟩
  rw [hb11] at K11 ⊢
  clear hb11
  refine (simple_calls 0 (some ⟨b11, 0, none⟩) 1 [5] w9 (C_one _ K11.out) (by decide)).mono ?_
  rintro e w10 ⟨A1, c1, rfl, hc1, hC, hb⟩
  have HP1 := Aside0.mk hC
  clear hC
  clear K11
  replace K2 := Aside0.mk (blk_below K2.out hb)
  replace K3 := Aside0.mk (blk_below K3.out hb)
  replace K4 := Aside0.mk (blk_below K4.out hb)
  replace K5 := Aside0.mk (blk_below K5.out hb)
  replace K6 := Aside0.mk (blk_below K6.out hb)
  replace K7 := Aside0.mk (blk_below K7.out hb)
  replace K8 := Aside0.mk (blk_below K8.out hb)
  replace K9 := Aside0.mk (blk_below K9.out hb)
  replace K10 := Aside0.mk (blk_below K10.out hb)
  replace HP := Aside0.mk (Kd.C_below HP.out hb)
  replace HB := Aside0.mk (HB.out.trans (hb.mono HB.out.size))
  clear hb
  go_wp2_with fail
  refine (check_calls 0 0 A1 c1 [⟨[], [5], 0⟩] w10 HP1.out hc1 (psz_lit (by decide))).mono ?_
  rintro e w11 ⟨rfl, hb⟩
  rw [chk2]
  replace K2 := Aside0.mk (blk_below K2.out hb)
  replace K3 := Aside0.mk (blk_below K3.out hb)
  replace K4 := Aside0.mk (blk_below K4.out hb)
  replace K5 := Aside0.mk (blk_below K5.out hb)
  replace K6 := Aside0.mk (blk_below K6.out hb)
  replace K7 := Aside0.mk (blk_below K7.out hb)
  replace K8 := Aside0.mk (blk_below K8.out hb)
  replace K9 := Aside0.mk (blk_below K9.out hb)
  replace K10 := Aside0.mk (blk_below K10.out hb)
  replace HP := Aside0.mk (Kd.C_below HP.out hb)
  replace HB := Aside0.mk (HB.out.trans (hb.mono HB.out.size))
  clear hb
  have K6c0 := (blk_cell K6.out 0).trans (show _ = some (.int .i64 1) from rfl)
  have K6c1 := (blk_cell K6.out 1).trans (show _ = some (.int .i64 0) from rfl)
  have K6c2 := (blk_cell K6.out 2).trans (show _ = some (.slice (some ⟨b5, 0, none⟩) 2 2) from rfl)
  go_wp2_with fail
  have HC2 : Aside0 (k51.C w11 (some ⟨b5, 0, none⟩) 2 [⟨[], [5], 0⟩, ⟨[], [5], 0⟩]) := ⟨C_ws [⟨[], [5], 0⟩, ⟨[], [5], 0⟩] _ K5.out (fun j p hj => by
    rcases j with _ | _ | j
    · simp at hj; subst hj
      exact ⟨none, 0, some ⟨b3, 0, none⟩, 1, rfl, rfl, rfl, Nat.le_refl _, C_zero _, Nat.le_refl _, C_one _ K3.out⟩
    · simp at hj; subst hj
      exact ⟨none, 0, some ⟨b4, 0, none⟩, 1, rfl, rfl, rfl, Nat.le_refl _, C_zero _, Nat.le_refl _, C_one _ K4.out⟩
    · simp at hj) (by decide)⟩
  refine (check_calls 1 0 (some ⟨b5, 0, none⟩) 2 [⟨[], [5], 0⟩, ⟨[], [5], 0⟩] w11 HC2.out (by decide) (psz_lit (by decide))).mono ?_
  rintro e w12 ⟨rfl, hb⟩
  rw [chk3]
  clear K6c0 K6c1 K6c2
  replace K2 := Aside0.mk (blk_below K2.out hb)
  replace K3 := Aside0.mk (blk_below K3.out hb)
  replace K4 := Aside0.mk (blk_below K4.out hb)
  replace K5 := Aside0.mk (blk_below K5.out hb)
  replace K6 := Aside0.mk (blk_below K6.out hb)
  replace K7 := Aside0.mk (blk_below K7.out hb)
  replace K8 := Aside0.mk (blk_below K8.out hb)
  replace K9 := Aside0.mk (blk_below K9.out hb)
  replace K10 := Aside0.mk (blk_below K10.out hb)
  replace HP := Aside0.mk (Kd.C_below HP.out hb)
  replace HB := Aside0.mk (HB.out.trans (hb.mono HB.out.size))
  clear hb
  have K10c0 := (blk_cell K10.out 0).trans (show _ = some (.int .i64 1) from rfl)
  have K10c1 := (blk_cell K10.out 1).trans (show _ = some (.int .i64 0) from rfl)
  have K10c2 := (blk_cell K10.out 2).trans (show _ = some (.slice (some ⟨b9, 0, none⟩) 1 1) from rfl)
  go_wp2_with fail
  have HC3 : Aside0 (k51.C w12 (some ⟨b9, 0, none⟩) 1 [⟨[0], [5], 0⟩]) := ⟨C_ws [⟨[0], [5], 0⟩] _ K9.out (fun j p hj => by
    rcases j with _ | j
    · simp at hj; subst hj
      exact ⟨some ⟨b8, 0, none⟩, 1, some ⟨b7, 0, none⟩, 1, rfl, rfl, rfl, Nat.le_refl _, C_one _ K8.out, Nat.le_refl _, C_one _ K7.out⟩
    · simp at hj) (by decide)⟩
  refine (check_calls 1 0 (some ⟨b9, 0, none⟩) 1 [⟨[0], [5], 0⟩] w12 HC3.out (by decide) (psz_lit (by decide))).mono ?_
  rintro e w13 ⟨rfl, hb⟩
  rw [chk4]
  clear K10c0 K10c1 K10c2
  replace K2 := Aside0.mk (blk_below K2.out hb)
  replace K3 := Aside0.mk (blk_below K3.out hb)
  replace K4 := Aside0.mk (blk_below K4.out hb)
  replace K5 := Aside0.mk (blk_below K5.out hb)
  replace K6 := Aside0.mk (blk_below K6.out hb)
  replace K7 := Aside0.mk (blk_below K7.out hb)
  replace K8 := Aside0.mk (blk_below K8.out hb)
  replace K9 := Aside0.mk (blk_below K9.out hb)
  replace K10 := Aside0.mk (blk_below K10.out hb)
  replace HP := Aside0.mk (Kd.C_below HP.out hb)
  replace HB := Aside0.mk (HB.out.trans (hb.mono HB.out.size))
  clear hb
  go_wp2_with fail
  go_ret
  exact ⟨rfl, HB.out⟩
end Go.Proofs.Ytkeadpichlgagaa.Pla
