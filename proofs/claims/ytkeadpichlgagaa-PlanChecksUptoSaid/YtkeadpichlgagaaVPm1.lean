/- Kept of the text Pm1: what is reached (wip/tools/prune.py). -/
import Derived.Test.YtkeadpichlgagaaVPlx1
import Derived.Test.YtkeadpichlgagaaVWvH
namespace Go.Proofs.Ytkeadpichlgagaa.Pla
open Go.RowKit Go.Proofs.YtkeadpichlgagaaW.PrintWords Go.Proofs.YtkeadpichlgagaaW.PrintLast Go.Proofs.YtkeadpichlgagaaW.PrintMore
open Go.Proofs.Ytkeadpichlgagaa.Pl Go.Proofs.Ytkeadpichlgagaa.PlS
set_option linter.unusedVariables false
set_option linter.unusedSimpArgs false
theorem inc (i : Nat) (h : i < 9223372036854775807) : wrap64 ((i : Int) + 1) = ((i + 1 : Nat) : Int) := by unfold wrap64; omega
theorem at51 (l : List S51) {i : Nat} (h : i < l.length) : rd_T51 l (i : Int) = l[i] := by simp [rd_T51, h]
theorem at43 (l : List S43) {i : Nat} (h : i < l.length) : rd_T43 l (i : Int) = l[i] := by simp [rd_T43, h]
theorem graph_in (ws : List S51) (hw : ws.length ≤ 1000000) (hs : ∀ x ∈ ws, x.f0.length ≤ 1000000) : ∀ d i : Nat, i + d = ws.length → Ev (fun k => plan_Graph.l0 k ((ws.take i).map (·.f0)) ws (ws.length : Int) (i : Int)) (ws.map (·.f0))
  | 0, i, h => by
    rw [List.take_of_length_le (by omega)]
    exact Ev.step (f := fun _ => some _) (fun k => by simp only [plan_Graph.l0]; rw [if_neg (by omega)]) (Ev.now _)
  | d + 1, i, h => by
    have hlt : i < ws.length := by omega
    have ih := graph_in ws hw hs d (i + 1) (by omega)
    have hx := hs _ (List.getElem_mem hlt)
    have hl : ((ws.take i).map (·.f0)).length ≤ i := by simp; omega
    rw [List.take_succ_eq_append_getElem hlt, List.map_append] at ih
    exact Ev.step (fun k => by simp only [plan_Graph.l0]; rw [if_pos (by omega), if_pos (by omega), if_pos (by omega), at51 ws hlt, show slices_Clone_int_int.f ws[i].f0 = some ws[i].f0 from by unfold slices_Clone_int_int.f; rw [if_pos hx], Option.bind_some, if_pos (by omega), inc i (by omega)]; rfl) ih
theorem graph_ev (b d : Int) (ws : List S51) (hw : ws.length ≤ 1000000) (hs : ∀ x ∈ ws, x.f0.length ≤ 1000000) : Ev (fun k => plan_Graph.f k b d ws) (ws.map (·.f0)) := graph_in ws hw hs ws.length 0 (by omega)
def clus (ws : List S51) : List Int := ws.flatMap (·.f1)
def clusP (ps : List S43) : List Int := ps.flatMap (fun p => clus p.f2)
theorem clus_snoc (ws : List S51) {i : Nat} (h : i < ws.length) : clus (ws.take (i + 1)) = clus (ws.take i) ++ ws[i].f1 := by
  unfold clus; rw [List.take_succ_eq_append_getElem h, List.flatMap_append]; simp
theorem clus_le (ws : List S51) (i : Nat) : (clus (ws.take i)).length ≤ (clus ws).length := by
  have : clus ws = clus (ws.take i) ++ clus (ws.drop i) := by unfold clus; rw [← List.flatMap_append, List.take_append_drop]
  rw [this, List.length_append]; omega
theorem clusP_snoc (ps : List S43) {i : Nat} (h : i < ps.length) : clusP (ps.take (i + 1)) = clusP (ps.take i) ++ clus ps[i].f2 := by
  unfold clusP; rw [List.take_succ_eq_append_getElem h, List.flatMap_append]; simp
theorem clusP_le (ps : List S43) (i : Nat) : (clusP (ps.take i)).length ≤ (clusP ps).length := by
  have : clusP ps = clusP (ps.take i) ++ clusP (ps.drop i) := by unfold clusP; rw [← List.flatMap_append, List.take_append_drop]
  rw [this, List.length_append]; omega
theorem clusters_in (ps : List S43) (hp : ps.length ≤ 1000000) (hw : ∀ p ∈ ps, p.f2.length ≤ 1000000) (ht : (clusP ps).length ≤ 1000000) : ∀ d i : Nat, i + d = ps.length → Ev (fun k => plan_Clusters.l0 k (clusP (ps.take i)) ps (ps.length : Int) (i : Int)) (Wv.asc (clusP ps))
  | 0, i, h => by
    rw [List.take_of_length_le (by omega)]
    exact Ev.step (f := fun _ => some _) (fun k => by simp only [plan_Clusters.l0]; rw [if_neg (by omega), show slices_Sort_int_int.f (clusP ps) = some (Wv.asc (clusP ps)) from by unfold slices_Sort_int_int.f; rw [if_pos (by omega)], Option.bind_some]) (Ev.now _)
  | d + 1, i, h => by
    have hlt : i < ps.length := by omega
    have ih := clusters_in ps hp hw ht d (i + 1) (by omega)
    have hwl := hw _ (List.getElem_mem hlt)
    have htl := clusP_le ps (i + 1)
    rw [clusP_snoc ps hlt] at ih htl
    rw [List.length_append] at htl
    have inner : ∀ e j : Nat, j + e = ps[i].f2.length → Ev (fun k => plan_Clusters.l1 k (clusP (ps.take i) ++ clus (ps[i].f2.take j)) ps (ps.length : Int) (i : Int) ps[i].f2 (ps[i].f2.length : Int) (j : Int)) (Wv.asc (clusP ps)) := by
      intro e
      induction e with
      | zero =>
        intro j hj
        rw [show ps[i].f2.take j = ps[i].f2 from List.take_of_length_le (by omega)]
        exact Ev.step (fun k => by simp only [plan_Clusters.l1]; rw [if_neg (by omega), inc i (by omega)]) ih
      | succ e ihe =>
        intro j hj
        have hlj : j < ps[i].f2.length := by omega
        have h2 := ihe (j + 1) (by omega)
        have h3 := clus_le ps[i].f2 (j + 1)
        rw [clus_snoc _ hlj] at h2 h3
        rw [List.length_append] at h3
        rw [← List.append_assoc] at h2
        exact Ev.step (fun k => by simp only [plan_Clusters.l1]; rw [if_pos (by omega), if_pos (by omega), if_pos (by omega), at51 _ hlj, if_pos (by rw [List.length_append]; omega), inc j (by omega)]) h2
    have h0 := inner ps[i].f2.length 0 (by omega)
    rw [List.take_zero, show clus [] = [] from rfl, List.append_nil] at h0
    exact Ev.step (fun k => by simp only [plan_Clusters.l0]; rw [if_pos (by omega), if_pos (by omega), if_pos (by omega), at43 ps hlt]; rfl) h0
theorem clusters_ev (ps : List S43) (hp : ps.length ≤ 1000000) (hw : ∀ p ∈ ps, p.f2.length ≤ 1000000) (ht : (clusP ps).length ≤ 1000000) : Ev (fun k => plan_Clusters.f k ps) (Wv.asc (clusP ps)) := clusters_in ps hp hw ht ps.length 0 (by omega)
end Go.Proofs.Ytkeadpichlgagaa.Pla
namespace Go.Proofs.Ytkeadpichlgagaa.Pla
open Go.RowKit Go.Lib Go.Sort Go.Shelf Go.Proofs.YtkeadpichlgagaaW.PrintWords Go.Proofs.YtkeadpichlgagaaW.PrintLast Go.Proofs.YtkeadpichlgagaaW.PrintMore
open Go.Proofs.Ytkeadpichlgagaa.Pl Go.Proofs.Ytkeadpichlgagaa.PlS Go.Proofs.Ytkeadpichlgagaa.Mp
set_option linter.unusedVariables false
set_option linter.unusedSimpArgs false
set_option linter.unnecessarySimpa false
theorem any_take {α : Type} (p : α → Bool) (xs : List α) (i : Nat) (h : i < xs.length) : (xs.take (i + 1)).any p = ((xs.take i).any p || p xs[i]) := by
  rw [List.take_succ_eq_append_getElem h, List.any_append]
  simp
structure Asks (g : Nat) (p : Int → Bool) (xs : List Int) (w : World) : Prop where
  cf : ∀ (args : Array Value) (w : World), (callFunc g args).run Try.prog w = .ok (.enter g args) w
  at' : ∀ e ∈ xs, ∀ W : World, Below w.heap.size w W → Calls Try.prog g #[.int .i64 e] W fun e' w' => e' = .returned (.bool (p e)) ∧ Below W.heap.size W w'
set_option maxRecDepth 100000 in
theorem idx_calls (g : Nat) (p : Int → Bool) (A : Option Addr) (c : Nat) (xs : List Int) (w : World) (hC : (Kd.int .i64).C w A xs.length xs) (hp : Asks g p xs w) :
    Calls Try.prog 110 #[.slice A xs.length c, .func (.func g) #[] #[]] w fun e w' => ∃ r : Int, e = .returned (.int .i64 r) ∧ (0 ≤ r ↔ xs.any p = true) ∧ Below w.heap.size w w' := by
  have HC := Aside0.mk hC
  have HP := Aside0.mk hp
  have hmax := hC.2.1
  have hcf := hp.cf
  clear hC hp
  go_enter Try.func110, Try.ntmps110
  go_wp2_with fail
  go_loopg [5, 8] xs.length (fun kq v5 v8 wr => ∃ i : Nat, v8 = .int .i64 i ∧ i + kq = xs.length ∧ Aside0 ((xs.take i).any p = false) ∧ Aside0 (Below w.heap.size w wr))
  case atStart => exact ⟨0, rfl, by omega, ⟨rfl⟩, ⟨Below.refl _ _⟩⟩
  case round =>
    obtain ⟨i, rfl, hi, HF, HBl⟩ := hrel
    by_cases hlt : i < xs.length
    · have hlt' : (i : Int) < (xs.length : Int) := by omega
      obtain ⟨pd, rfl, y0⟩ := Kd.at_int (Kd.C_below HC.out HBl.out) i (by omega) hlt'
      simp only [Int.toNat_natCast] at y0
      have er := (show Go.Proofs.YtkeadpichlgagaaW.PrintWords.rd xs (i : Int) = xs[i] from by simp [Go.Proofs.YtkeadpichlgagaaW.PrintWords.rd, hlt])
      rw [er] at y0
      have HCL := Aside0.mk (HP.out.at' xs[i] (List.getElem_mem hlt) wr HBl.out)
      have HT := Aside0.mk (any_take p xs i hlt)
      have HM : Aside0 (p xs[i] = true → xs.any p = true) := ⟨fun h => List.any_eq_true.2 ⟨_, List.getElem_mem hlt, h⟩⟩
      clear er
      generalize xs[i] = x at y0 HCL HT HM
      go_wp2_with fail
      refine HCL.out.mono ?_
      rintro e w2 ⟨rfl, hB⟩
      have HB2 := Aside0.mk (HBl.out.trans (hB.mono HBl.out.size))
      clear hB y0 HCL
      generalize p x = px at HT HM ⊢
      cases px with
      | true =>
        go_wp2_with fail
        go_ret
        exact ⟨_, rfl, ⟨fun _ => HM.out (by first | rfl | trivial), fun _ => by omega⟩, HB2.out⟩
      | false =>
        have HT2 : Aside0 ((xs.take (i + 1)).any p = false) := ⟨by rw [HT.out, HF.out]; rfl⟩
        go_wp2_with fail
        go_roundg (gk - 1)
        case measure => omega
        case rel => exact ⟨i + 1, by go_num, by omega, HT2, HB2⟩
    · have HT2 : Aside0 (xs.any p = false) := ⟨by
        have hf := HF.out
        rwa [List.take_of_length_le (by omega)] at hf⟩
      go_wp2_with fail
      go_ret
      exact ⟨-1, rfl, ⟨fun h => by omega, fun h => by rw [HT2.out] at h; cases h⟩, HBl.out⟩
set_option maxRecDepth 100000 in
theorem any_calls (g : Nat) (p : Int → Bool) (A : Option Addr) (c : Nat) (xs : List Int) (w : World) (hC : (Kd.int .i64).C w A xs.length xs) (hp : Asks g p xs w) :
    Calls Try.prog 73 #[.slice A xs.length c, .func (.func g) #[] #[]] w fun e w' => e = .returned (.bool (xs.any p)) ∧ Below w.heap.size w w' := by
  have HC := Aside0.mk (idx_calls g p A c xs w hC hp)
  clear hC hp
  go_enter Try.func73, Try.ntmps73
  go_wp2_with fail
  refine HC.out.mono ?_
  rintro e w2 ⟨r, rfl, hr, hB⟩
  have HB := Aside0.mk hB
  have HR : Aside0 (decide (0 ≤ r) = xs.any p) := ⟨by rw [Bool.eq_iff_iff, decide_eq_true_iff]; exact hr⟩
  clear hB hr
  go_wp2_with fail
  go_ret
  exact ⟨by rw [← HR.out]; rfl, HB.out⟩
theorem in_at (n a b : Int) : plan_in.f n a b = some (decide (a ≤ n ∧ n ≤ b)) := by
  unfold plan_in.f
  by_cases h : a ≤ n
  · simp [h]
  · simp [h]
def inB (n a b : Int) : Bool := decide (a ≤ n ∧ n ≤ b)
theorem in_calls (n a b : Int) (w : World) : Calls Try.prog 80 #[.int .i64 n, .int .i64 a, .int .i64 b] w fun e w' => e = .returned (.bool (inB n a b)) ∧ Below w.heap.size w w' :=
  (plan_in.calls n a b _ w (in_at n a b)).mono fun e w' ⟨he, hd⟩ => ⟨he, by obtain ⟨n, rfl⟩ := hd.out; exact pw_below_drewN (Below.refl _ _) n⟩
theorem cf81 (args : Array Value) (w : World) : (callFunc 81 args).run Try.prog w = .ok (.enter 81 args) w := by kernel_rfl
def oddB (e : Int) : Bool := !inB e 0 1048575
set_option maxRecDepth 100000 in
theorem odd_calls (e : Int) (w : World) : Calls Try.prog 81 #[.int .i64 e] w fun e' w' => e' = .returned (.bool (oddB e)) ∧ Below w.heap.size w w' := by
  go_enter Try.func81, Try.ntmps81
  go_wp2_with fail
  refine (in_calls e 0 1048575 w).mono ?_
  rintro e w2 ⟨rfl, hb⟩
  have HB := Aside0.mk hb
  clear hb
  go_wp2_with fail
  go_ret
  exact ⟨rfl, HB.out⟩
theorem odd_any (A : Option Addr) (c : Nat) (xs : List Int) (w : World) (hC : (Kd.int .i64).C w A xs.length xs) :
    Calls Try.prog 73 #[.slice A xs.length c, .func (.func 81) #[] #[]] w fun e w' => e = .returned (.bool (xs.any oddB)) ∧ Below w.heap.size w w' :=
  any_calls 81 oddB A c xs w hC ⟨cf81, fun e _ W _ => odd_calls e W⟩
end Go.Proofs.Ytkeadpichlgagaa.Pla
namespace Go.Proofs.Ytkeadpichlgagaa.Pla
open Go.RowKit Go.Lib Go.Sort Go.Shelf Go.Proofs.YtkeadpichlgagaaW.PrintWords Go.Proofs.YtkeadpichlgagaaW.PrintLast Go.Proofs.YtkeadpichlgagaaW.PrintMore
open Go.Proofs.Ytkeadpichlgagaa.Pl Go.Proofs.Ytkeadpichlgagaa.PlS Go.Proofs.Ytkeadpichlgagaa.Mp
set_option linter.unusedVariables false
set_option linter.unusedSimpArgs false
set_option linter.unnecessarySimpa false
theorem grown_new {w : World} (cur : Array Value) (e : TypeId) : (w.alloc (.cells cur e)).heap[w.heap.size]? = some (.cells cur e (0, 0)) := Array.getElem?_push_size
def badW (x : S51) : Bool := !decide (0 ≤ x.f2 ∧ x.f2 ≤ 1048576) || decide (x.f1.length = 0) || x.f1.any oddB
noncomputable def checkF (b d : Int) (ws : List S51) : Int := open Classical in
  if ¬ (1 ≤ b ∧ b ≤ 65535) ∨ ¬ (0 ≤ d ∧ d ≤ 65535) ∨ ¬ (1 ≤ ws.length ∧ ws.length ≤ 64) then 2
  else if ws.any badW = true then 2
  else if 65535 < (clus ws).length then 112
  else if ¬ (clus ws).Nodup then 113
  else Wv.ordE (ws.map (·.f0))
structure Psz (ws : List S51) : Prop where
  n : ws.length ≤ 10000
  rows : ∀ x ∈ ws, x.f0.length ≤ 1000000
  rows1 : ∀ x ∈ ws, x.f1.length ≤ 1000000
  all : (clus ws).length ≤ 1000000
theorem check_a {b d : Int} {ws : List S51} (h : ¬ (1 ≤ b ∧ b ≤ 65535) ∨ ¬ (0 ≤ d ∧ d ≤ 65535) ∨ ¬ (1 ≤ ws.length ∧ ws.length ≤ 64)) : checkF b d ws = 2 := by unfold checkF; rw [if_pos h]
theorem check_b {b d : Int} {ws : List S51} (hb : ws.any badW = true) : checkF b d ws = 2 := by
  unfold checkF
  by_cases h : ¬ (1 ≤ b ∧ b ≤ 65535) ∨ ¬ (0 ≤ d ∧ d ≤ 65535) ∨ ¬ (1 ≤ ws.length ∧ ws.length ≤ 64)
  · rw [if_pos h]
  · rw [if_neg h, if_pos hb]
theorem check_n {b d : Int} {ws : List S51} (h1 : 1 ≤ b ∧ b ≤ 65535) (h2 : 0 ≤ d ∧ d ≤ 65535) (h3 : 1 ≤ ws.length ∧ ws.length ≤ 64) (hb : ws.any badW = false) :
    checkF b d ws = if 65535 < (clus ws).length then 112 else if ¬ (clus ws).Nodup then 113 else Wv.ordE (ws.map (·.f0)) := by
  unfold checkF
  rw [if_neg (fun h => by rcases h with h | h | h <;> exact h (by assumption)), if_neg (by rw [hb]; decide)]
theorem badW_of {x : S51} (h : ¬ (0 ≤ x.f2 ∧ x.f2 ≤ 1048576) ∨ x.f1.length = 0 ∨ x.f1.any oddB = true) : badW x = true := by
  unfold badW
  rcases h with h | h | h
  · rw [decide_eq_false h]; rfl
  · rw [decide_eq_true h]; simp
  · rw [h]; simp
theorem badW_not {x : S51} (h1 : 0 ≤ x.f2 ∧ x.f2 ≤ 1048576) (h2 : ¬ x.f1.length = 0) (h3 : x.f1.any oddB = false) : badW x = false := by
  unfold badW; rw [decide_eq_true h1, decide_eq_false h2, h3]; rfl
theorem C_plan1 {w : World} {bb : Nat} {T : TypeId} {A : Option Addr} {c : Nat} (b d : Int) (ws : List S51) (h : w.heap[bb]? = some (.cells #[.int .i64 b, .int .i64 d, .slice A ws.length c] T (0, 0)))
    (l0 : ws.length ≤ c) (g0 : k51.C w A ws.length ws) : Kd.C k43 w (some ⟨bb, 0, none⟩) 1 [⟨b, d, ws⟩] := by
  refine ⟨rfl, by omega, fun _ => ⟨_, rfl, fun j p hj => ?_⟩⟩
  rcases j with _ | j
  · obtain rfl : (⟨b, d, ws⟩ : S43) = p := by simpa using hj
    refine ⟨_, rfl, k43_mk w ⟨b, d, ws⟩ l0 g0, fun i u hu => ?_⟩
    rw [Addr.add_lit]
    simp only [Nat.zero_mul, Nat.zero_add]
    rw [blk_cell h i, ← hu]
    rcases i with _ | _ | _ | i
    · rfl
    · rfl
    · rfl
    · simp at hu
  · simp at hj
theorem C_plan2 {w : World} {bb : Nat} {T : TypeId} {A A' : Option Addr} {c c' : Nat} (b d : Int) (ws : List S51) (b' d' : Int) (ws' : List S51) (h : w.heap[bb]? = some (.cells #[.int .i64 b, .int .i64 d, .slice A ws.length c, .int .i64 b', .int .i64 d', .slice A' ws'.length c'] T (0, 0)))
    (l0 : ws.length ≤ c) (g0 : k51.C w A ws.length ws) (l1 : ws'.length ≤ c') (g1 : k51.C w A' ws'.length ws') : Kd.C k43 w (some ⟨bb, 0, none⟩) 2 [⟨b, d, ws⟩, ⟨b', d', ws'⟩] := by
  refine ⟨rfl, by omega, fun _ => ⟨_, rfl, fun j p hj => ?_⟩⟩
  rcases j with _ | j
  · obtain rfl : (⟨b, d, ws⟩ : S43) = p := by simpa using hj
    refine ⟨_, rfl, k43_mk w ⟨b, d, ws⟩ l0 g0, fun i u hu => ?_⟩
    rw [Addr.add_lit]
    simp only [Nat.zero_mul, Nat.zero_add]
    rw [blk_cell h i, ← hu]
    rcases i with _ | _ | _ | i
    · rfl
    · rfl
    · rfl
    · simp at hu
  · obtain rfl : j = 0 := by
      rcases j with _ | j
      · rfl
      · simp at hj
    obtain rfl : (⟨b', d', ws'⟩ : S43) = p := by simpa using hj
    refine ⟨_, rfl, k43_mk w ⟨b', d', ws'⟩ l1 g1, fun i u hu => ?_⟩
    rw [Addr.add_lit]
    rw [show (0 : Nat) + ((0 + 1) * k43.sz + i) = 3 + i from by show 0 + ((0 + 1) * 3 + i) = 3 + i; omega]
    rw [blk_cell h (3 + i), ← hu]
    rcases i with _ | _ | _ | i
    · rfl
    · rfl
    · rfl
    · simp at hu
theorem compact_le (l : List Int) : (Lib.compact l).length ≤ l.length := by
  unfold Lib.compact Lib.compactUpTo
  rw [List.length_map]
  exact Nat.le_trans (List.length_filter_le _ _) (by rw [List.length_range]; exact Nat.le_refl _)
theorem clusP1 (b d : Int) (ws : List S51) : clusP [⟨b, d, ws⟩] = clus ws := by simp [clusP]
theorem clusters1_calls (b d : Int) (A : Option Addr) (c : Nat) (ws : List S51) (bb : Nat) (w : World) (h : w.heap[bb]? = some (.cells #[.int .i64 b, .int .i64 d, .slice A ws.length c] 43 (0, 0))) (l0 : ws.length ≤ c) (g0 : k51.C w A ws.length ws) (hz : Psz ws) (C : Nat) (hC : 1 ≤ C) :
    Calls Try.prog 35 #[.slice (some ⟨bb, 0, none⟩) 1 C] w fun e w' => ∃ v, e = .returned v ∧ (Kd.int .i64).R 3 w' w.heap.size (fun _ => True) v (Wv.asc (clus ws)) ∧ Below w.heap.size w w' := by
  obtain ⟨k, hk⟩ := (clusters_ev [⟨b, d, ws⟩] (by simp) (fun p hp => by simp at hp; subst hp; exact Nat.le_trans hz.n (by omega)) (by rw [clusP1]; exact hz.all)).rounds
  rw [clusP1] at hk
  exact plan_Clusters.calls k (some ⟨bb, 0, none⟩) C [⟨b, d, ws⟩] _ w (C_plan1 b d ws h l0 g0) hC hk
theorem gsz_of {ws : List S51} (hz : Psz ws) : Wv.Gsz (ws.map (·.f0)) := by
  refine ⟨by rw [List.length_map]; exact hz.n, fun y hy => ?_⟩
  rw [List.length_map] at hy
  unfold Wv.row
  rw [Int.toNat_natCast, List.getD_eq_getElem?_getD, List.getElem?_map, List.getElem?_eq_getElem hy]
  exact hz.rows _ (List.getElem_mem hy)
theorem graph_calls (b d : Int) (A : Option Addr) (c : Nat) (ws : List S51) (w : World) (l0 : ws.length ≤ c) (g0 : k51.C w A ws.length ws) (hz : Psz ws) :
    Calls Try.prog 34 #[.agg #[.int .i64 b, .int .i64 d, .slice A ws.length c]] w fun e w' => ∃ v, e = .returned v ∧ Kd.S (Kd.slice 3 (Kd.int .i64)) 25 w' w.heap.size (fun _ => True) v (ws.map (·.f0)) ∧ Below w.heap.size w w' := by
  obtain ⟨k, hk⟩ := (graph_ev b d ws (by have := hz.n; omega) hz.rows).rounds
  exact plan_Graph.calls k b d A c ws _ w g0 l0 hk
set_option maxHeartbeats 4000000 in
set_option maxRecDepth 100000 in
theorem check_calls (b d : Int) (A : Option Addr) (c : Nat) (ws : List S51) (w : World) (hC : k51.C w A ws.length ws) (hcap : ws.length ≤ c) (hz : Psz ws) :
    Calls Try.prog 30 #[.agg #[.int .i64 b, .int .i64 d, .slice A ws.length c]] w fun e w' => e = .returned (.int .i64 (checkF b d ws)) ∧ Below w.heap.size w w' := by
  have HC := Aside0.mk hC
  have HZ := Aside0.mk hz
  have hmax := hC.2.1
  clear hC hz
  go_enter Try.func30, Try.ntmps30
  go_wp2_with fail
  have HB : Aside0 (Below w.heap.size w (w.alloc (Obj.cells #[.int .i64 b, .int .i64 d, .slice A ws.length c] 43))) := ⟨(Below.refl _ w).alloc (Nat.le_refl _) _⟩
  have K1 := Aside0.mk (grown_new (w := w) #[.int .i64 b, .int .i64 d, .slice A ws.length c] 43)
  generalize w.alloc (Obj.cells #[.int .i64 b, .int .i64 d, .slice A ws.length c] 43) = w1 at HB K1 ⊢
  obtain ⟨b1, hb1⟩ : ∃ b, w.heap.size = b := ⟨_, rfl⟩
  rw [hb1] at K1 ⊢
  clear hb1
  refine (in_calls b 1 65535 _).mono ?_
  rintro e w2 ⟨rfl, hb⟩
  replace K1 := Aside0.mk (blk_below K1.out hb)
  replace HB := Aside0.mk (HB.out.trans (hb.mono HB.out.size))
  clear hb
  by_cases h1 : 1 ≤ b ∧ b ≤ 65535
  ·
    rw [show inB b 1 65535 = true from decide_eq_true h1]
    have H1 := Aside0.mk h1
    clear h1
    have K1c0 := (blk_cell K1.out 0).trans (show _ = some (.int .i64 b) from rfl)
    have K1c1 := (blk_cell K1.out 1).trans (show _ = some (.int .i64 d) from rfl)
    have K1c2 := (blk_cell K1.out 2).trans (show _ = some (.slice A ws.length c) from rfl)
    go_wp2_with fail
    refine (in_calls d 0 65535 _).mono ?_
    rintro e w3 ⟨rfl, hb⟩
    clear K1c0 K1c1 K1c2
    replace K1 := Aside0.mk (blk_below K1.out hb)
    replace HB := Aside0.mk (HB.out.trans (hb.mono HB.out.size))
    clear hb
    by_cases h2 : 0 ≤ d ∧ d ≤ 65535
    ·
      rw [show inB d 0 65535 = true from decide_eq_true h2]
      have H2 := Aside0.mk h2
      clear h2
      have K1c0 := (blk_cell K1.out 0).trans (show _ = some (.int .i64 b) from rfl)
      have K1c1 := (blk_cell K1.out 1).trans (show _ = some (.int .i64 d) from rfl)
      have K1c2 := (blk_cell K1.out 2).trans (show _ = some (.slice A ws.length c) from rfl)
      go_wp2_with fail
      refine (in_calls ws.length 1 64 _).mono ?_
      rintro e w4 ⟨rfl, hb⟩
      clear K1c0 K1c1 K1c2
      replace K1 := Aside0.mk (blk_below K1.out hb)
      replace HB := Aside0.mk (HB.out.trans (hb.mono HB.out.size))
      clear hb
      by_cases h3 : (1 : Int) ≤ (ws.length : Int) ∧ (ws.length : Int) ≤ 64
      ·
        rw [show inB (ws.length : Int) 1 64 = true from decide_eq_true h3]
        have H3 : Aside0 (1 ≤ ws.length ∧ ws.length ≤ 64) := ⟨by omega⟩
        clear h3
        have K1c0 := (blk_cell K1.out 0).trans (show _ = some (.int .i64 b) from rfl)
        have K1c1 := (blk_cell K1.out 1).trans (show _ = some (.int .i64 d) from rfl)
        have K1c2 := (blk_cell K1.out 2).trans (show _ = some (.slice A ws.length c) from rfl)
        go_wp2_with fail
        clear K1c0 K1c1 K1c2
        go_loopg [28] ws.length (fun kq v28 wr => ∃ i : Nat, v28 = .int .i64 i ∧ i + kq = ws.length ∧ Aside0 ((ws.take i).any badW = false) ∧ Aside0 (wr.heap[b1]? = some (.cells #[.int .i64 b, .int .i64 d, .slice A ws.length c] 43 (0, 0))) ∧ Aside0 (Below w.heap.size w wr))
        case atStart => exact ⟨0, rfl, by omega, ⟨rfl⟩, K1, HB⟩
        case round =>
          clear K1 HB
          obtain ⟨i, rfl, hi, HN, K1, HB⟩ := hrel
          by_cases hlt : i < ws.length
          ·
            have hlt' : (i : Int) < (ws.length : Int) := by omega
            obtain ⟨ad, A0, c0, A1, c1, ea, y0, y1, y2, l0, g0, l1, g1⟩ := at_T51 (Kd.C_below HC.out HB.out) i (by omega) hlt'
            subst ea
            rw [at51 ws hlt] at y0 y1 y2 l0 g0 l1 g1
            simp only [Int.toNat_natCast] at y0 y1 y2
            have HTK := Aside0.mk (any_take badW ws i hlt)
            have HBW : Aside0 (badW ws[i] = true → checkF b d ws = 2) := ⟨fun h => check_b (List.any_eq_true.2 ⟨_, List.getElem_mem hlt, h⟩)⟩
            have HG1 := Aside0.mk g1
            have hm1 := g1.2.1
            clear g0 g1
            generalize ws[i] = x at y0 y1 y2 l0 l1 HTK HBW HG1 hm1
            go_wp2_with fail
            have HB5 : Below wr.heap.size wr (wr.alloc (Obj.cells #[.slice A0 x.f0.length c0, .slice A1 x.f1.length c1, .int .i64 x.f2] 51)) := (Below.refl _ wr).alloc (Nat.le_refl _) _
            have K2 := Aside0.mk (grown_new (w := wr) #[.slice A0 x.f0.length c0, .slice A1 x.f1.length c1, .int .i64 x.f2] 51)
            clear y0 y1 y2
            obtain ⟨b2, hb2⟩ : ∃ b, wr.heap.size = b := ⟨_, rfl⟩
            replace K1 := Aside0.mk (blk_below K1.out HB5)
            replace HG1 := Aside0.mk (Kd.C_below HG1.out HB5)
            replace HB := Aside0.mk (HB.out.trans (HB5.mono HB.out.size))
            clear HB5
            generalize wr.alloc (Obj.cells #[.slice A0 x.f0.length c0, .slice A1 x.f1.length c1, .int .i64 x.f2] 51) = w5 at *
            rw [hb2] at K2 ⊢
            clear hb2
            refine (odd_any A1 c1 x.f1 w5 HG1.out).mono ?_
            rintro e w6 ⟨rfl, hb⟩
            replace K1 := Aside0.mk (blk_below K1.out hb)
            replace K2 := Aside0.mk (blk_below K2.out hb)
            replace HG1 := Aside0.mk (Kd.C_below HG1.out hb)
            replace HB := Aside0.mk (HB.out.trans (hb.mono HB.out.size))
            clear hb
            generalize hod : x.f1.any oddB = od
            have HOD := Aside0.mk hod
            clear hod
            have K2c0 := (blk_cell K2.out 0).trans (show _ = some (.slice A0 x.f0.length c0) from rfl)
            have K2c1 := (blk_cell K2.out 1).trans (show _ = some (.slice A1 x.f1.length c1) from rfl)
            have K2c2 := (blk_cell K2.out 2).trans (show _ = some (.int .i64 x.f2) from rfl)
            go_wp2_with fail
            refine (in_calls x.f2 0 1048576 _).mono ?_
            rintro e w7 ⟨rfl, hb⟩
            clear K2c0 K2c1 K2c2
            replace K1 := Aside0.mk (blk_below K1.out hb)
            replace K2 := Aside0.mk (blk_below K2.out hb)
            replace HG1 := Aside0.mk (Kd.C_below HG1.out hb)
            replace HB := Aside0.mk (HB.out.trans (hb.mono HB.out.size))
            clear hb
            by_cases h4 : 0 ≤ x.f2 ∧ x.f2 ≤ 1048576
            ·
              rw [show inB x.f2 0 1048576 = true from decide_eq_true h4]
              by_cases h5 : x.f1.length = 0
              ·
                have t1 : ((x.f1.length : Int) == 0) = true := by simpa using h5
                have HF : Aside0 (checkF b d ws = 2) := ⟨HBW.out (badW_of (.inr (.inl h5)))⟩
                clear h4 h5
                have K2c0 := (blk_cell K2.out 0).trans (show _ = some (.slice A0 x.f0.length c0) from rfl)
                have K2c1 := (blk_cell K2.out 1).trans (show _ = some (.slice A1 x.f1.length c1) from rfl)
                have K2c2 := (blk_cell K2.out 2).trans (show _ = some (.int .i64 x.f2) from rfl)
                go_wp2_with fail
                go_ret
                exact ⟨by rw [HF.out]; try rfl, HB.out⟩
              ·
                have t1 : ((x.f1.length : Int) == 0) = false := by simpa using h5
                cases od with
                | true =>
                  have HF : Aside0 (checkF b d ws = 2) := ⟨HBW.out (badW_of (.inr (.inr HOD.out)))⟩
                  clear h4 h5
                  have K2c0 := (blk_cell K2.out 0).trans (show _ = some (.slice A0 x.f0.length c0) from rfl)
                  have K2c1 := (blk_cell K2.out 1).trans (show _ = some (.slice A1 x.f1.length c1) from rfl)
                  have K2c2 := (blk_cell K2.out 2).trans (show _ = some (.int .i64 x.f2) from rfl)
                  go_wp2_with fail
                  go_ret
                  exact ⟨by rw [HF.out]; try rfl, HB.out⟩
                | false =>
                  have HN2 : Aside0 ((ws.take (i + 1)).any badW = false) := ⟨by rw [HTK.out, HN.out, badW_not h4 h5 HOD.out]; rfl⟩
                  clear h4 h5
                  have K2c0 := (blk_cell K2.out 0).trans (show _ = some (.slice A0 x.f0.length c0) from rfl)
                  have K2c1 := (blk_cell K2.out 1).trans (show _ = some (.slice A1 x.f1.length c1) from rfl)
                  have K2c2 := (blk_cell K2.out 2).trans (show _ = some (.int .i64 x.f2) from rfl)
                  go_wp2_with fail
                  go_roundg (ws.length - (i + 1))
                  case measure => omega
                  case rel => exact ⟨i + 1, by go_num, by omega, HN2, K1, HB⟩
            ·
              rw [show inB x.f2 0 1048576 = false from decide_eq_false h4]
              have HF : Aside0 (checkF b d ws = 2) := ⟨HBW.out (badW_of (.inl h4))⟩
              clear h4
              have K2c0 := (blk_cell K2.out 0).trans (show _ = some (.slice A0 x.f0.length c0) from rfl)
              have K2c1 := (blk_cell K2.out 1).trans (show _ = some (.slice A1 x.f1.length c1) from rfl)
              have K2c2 := (blk_cell K2.out 2).trans (show _ = some (.int .i64 x.f2) from rfl)
              go_wp2_with fail
              go_ret
              exact ⟨by rw [HF.out]; try rfl, HB.out⟩
          ·
            have HNA : Aside0 (ws.any badW = false) := ⟨by
              have hf := HN.out
              rwa [List.take_of_length_le (by omega)] at hf⟩
            have HF := Aside0.mk (check_n H1.out H2.out H3.out HNA.out)
            have hge : decide (i < ws.length) = false := decide_eq_false hlt
            clear HN hi hlt
            have K1c0 := (blk_cell K1.out 0).trans (show _ = some (.int .i64 b) from rfl)
            have K1c1 := (blk_cell K1.out 1).trans (show _ = some (.int .i64 d) from rfl)
            have K1c2 := (blk_cell K1.out 2).trans (show _ = some (.slice A ws.length c) from rfl)
            go_wp2_with fail
            have HB8 : Below wr.heap.size wr (wr.alloc (Obj.cells #[.int .i64 b, .int .i64 d, .slice A ws.length c] 43)) := (Below.refl _ wr).alloc (Nat.le_refl _) _
            have K3 := Aside0.mk (grown_new (w := wr) #[.int .i64 b, .int .i64 d, .slice A ws.length c] 43)
            obtain ⟨b3, hb3⟩ : ∃ b, wr.heap.size = b := ⟨_, rfl⟩
            clear K1c0 K1c1 K1c2
            replace K1 := Aside0.mk (blk_below K1.out HB8)
            replace HB := Aside0.mk (HB.out.trans (HB8.mono HB.out.size))
            clear HB8
            generalize wr.alloc (Obj.cells #[.int .i64 b, .int .i64 d, .slice A ws.length c] 43) = w8 at *
            rw [hb3] at K3 ⊢
            clear hb3
            refine (clusters1_calls b d A c ws b3 w8 K3.out hcap (Kd.C_below HC.out HB.out) HZ.out 1 (Nat.le_refl _)).mono ?_
            rintro e w9 ⟨v, rfl, hv, hb⟩
            have HV := Aside0.mk hv
            have HB89 := Aside0.mk hb
            have K18 := K1
            have HB8 := HB
            clear hv
            clear K3
            replace K1 := Aside0.mk (blk_below K1.out hb)
            replace HB := Aside0.mk (HB.out.trans (hb.mono HB.out.size))
            clear hb
            obtain ⟨Av, cv, rfl⟩ := Kd.R_slice HV.out
            have hln := Wv.asc_len (clus ws)
            have hza := HZ.out.all
            obtain ⟨n, hn⟩ : ∃ n, (Wv.asc (clus ws)).length = n := ⟨_, rfl⟩
            have HN := Aside0.mk hn
            rw [hn] at HV hln ⊢
            rw [← hln] at HF hza
            clear hn hln
            by_cases h6 : 65535 < n
            ·
              have h6' : (65535 : Int) < (n : Int) := by omega
              replace HF : Aside0 (checkF b d ws = 112) := ⟨by rw [HF.out, if_pos h6]⟩
              clear h6
              go_wp2_with fail
              go_ret
              exact ⟨by rw [HF.out]; try rfl, HB.out⟩
            ·
              have h6' : (n : Int) ≤ 65535 := by omega
              replace HF : Aside0 (checkF b d ws = if ¬ (clus ws).Nodup then 113 else Wv.ordE (ws.map (·.f0))) := ⟨by rw [HF.out, if_neg h6]⟩
              clear h6
              go_wp2_with fail
              refine (Wv.compact_calls _ (Wv.asc (clus ws)) w9 w8.heap.size _ HV.out (by rw [HN.out]; exact hza)).mono ?_
              rintro e w10 ⟨A2, c2, rfl, hg⟩
              have HB9 : Below w8.heap.size w8 w10 := pw_below_grown HB89.out _ HB89.out.size hg (Kd.R_base HV.out)
              have HCL := Aside0.mk (Wv.compact_len (Wv.asc (clus ws)) (Wv.asc_sorted _))
              have HND : Aside0 ((Wv.asc (clus ws)).Nodup ↔ (clus ws).Nodup) := ⟨(Wv.asc_perm _).nodup_iff⟩
              have HLE : (Lib.compact (Wv.asc (clus ws))).length ≤ n := by rw [← HN.out]; exact compact_le _
              clear hg
              replace K1 := Aside0.mk (blk_below K18.out HB9)
              replace HB := Aside0.mk (HB8.out.trans (HB9.mono HB8.out.size))
              clear HB9 HB89 K18 HB8 HV
              rw [HN.out] at HCL
              generalize (Lib.compact (Wv.asc (clus ws))).length = m at HCL HLE ⊢
              by_cases h7 : m < n
              ·
                have h7d : decide (m < n) = true := decide_eq_true h7
                replace HF : Aside0 (checkF b d ws = 113) := ⟨by rw [HF.out, if_pos (fun h => by have := HCL.out.2 (HND.out.2 h); omega)]⟩
                clear h7
                go_wp2_with fail
                go_ret
                exact ⟨by rw [HF.out]; try rfl, HB.out⟩
              ·
                have h7d : decide (m < n) = false := decide_eq_false h7
                replace HF : Aside0 (checkF b d ws = Wv.ordE (ws.map (·.f0))) := ⟨by rw [HF.out, if_neg (fun h => h (HND.out.1 (HCL.out.1 (by omega))))]⟩
                clear h7
                have K1c0 := (blk_cell K1.out 0).trans (show _ = some (.int .i64 b) from rfl)
                have K1c1 := (blk_cell K1.out 1).trans (show _ = some (.int .i64 d) from rfl)
                have K1c2 := (blk_cell K1.out 2).trans (show _ = some (.slice A ws.length c) from rfl)
                go_wp2_with fail
                refine (graph_calls b d A c ws w10 hcap (Kd.C_below HC.out HB.out) HZ.out).mono ?_
                rintro e w11 ⟨v, rfl, hv, hb⟩
                obtain ⟨Ag, cg, rfl⟩ := Kd.S_slice hv
                have HG := Aside0.mk (Kd.S_reads' hv)
                clear hv
                clear K1
                clear K1c0 K1c1 K1c2
                replace HB := Aside0.mk (HB.out.trans (hb.mono HB.out.size))
                clear hb
                go_wp2_with fail
                have hrc := Wv.right_calls Ag cg (ws.map (·.f0)) w11 HG.out.2.2 HG.out.2.1 (gsz_of HZ.out)
                rw [List.length_map] at hrc
                refine hrc.mono ?_
                clear hrc
                rintro e w12 ⟨rfl, hb⟩
                replace HB := Aside0.mk (HB.out.trans (hb.mono HB.out.size))
                clear hb
                go_wp2_with fail
                go_ret
                exact ⟨by rw [HF.out]; try rfl, HB.out⟩
      ·
        rw [show inB (ws.length : Int) 1 64 = false from decide_eq_false h3]
        have HF : Aside0 (checkF b d ws = 2) := ⟨check_a (.inr (.inr (fun h => h3 (by omega))))⟩
        clear h3
        go_wp2_with fail
        go_ret
        exact ⟨by rw [HF.out]; try rfl, HB.out⟩
    ·
      rw [show inB d 0 65535 = false from decide_eq_false h2]
      have HF : Aside0 (checkF b d ws = 2) := ⟨check_a (.inr (.inl h2))⟩
      clear h2
      go_wp2_with fail
      go_ret
      exact ⟨by rw [HF.out]; try rfl, HB.out⟩
  ·
    rw [show inB b 1 65535 = false from decide_eq_false h1]
    have HF : Aside0 (checkF b d ws = 2) := ⟨check_a (.inl h1)⟩
    clear h1
    go_wp2_with fail
    go_ret
    exact ⟨by rw [HF.out]; try rfl, HB.out⟩
end Go.Proofs.Ytkeadpichlgagaa.Pla
namespace Go.Proofs.Ytkeadpichlgagaa.Pla
open Go.RowKit Go.Lib Go.Sort Go.Shelf Go.Proofs.YtkeadpichlgagaaW.PrintWords Go.Proofs.YtkeadpichlgagaaW.PrintLast Go.Proofs.YtkeadpichlgagaaW.PrintMore
open Go.Proofs.Ytkeadpichlgagaa.Pl Go.Proofs.Ytkeadpichlgagaa.PlS Go.Proofs.Ytkeadpichlgagaa.Mp
set_option linter.unusedVariables false
set_option linter.unusedSimpArgs false
set_option linter.unnecessarySimpa false
def waveL (c : Int) : List S51 → Nat → Int
  | [], _ => -1
  | x :: r, i => if c ∈ x.f1 then (i : Int) else waveL c r (i + 1)
def waveF (ws : List S51) (c : Int) : Int := waveL c ws 0
theorem cf84 (args : Array Value) (w : World) : (callFunc 84 args).run Try.prog w = .ok (.enter 84 args) w := by kernel_rfl
set_option maxHeartbeats 1000000 in
set_option maxRecDepth 100000 in
theorem has84_calls (x : S51) (A0 A1 : Option Addr) (c0 c1 : Nat) (q : Int) (g : Nat) (w : World) (hg : w.heap[g]? = some (.cells #[.int .i64 q] 3 (0, 0))) (l1 : x.f1.length ≤ c1) (g1 : (Kd.int .i64).C w A1 x.f1.length x.f1) (hl : x.f1.length ≤ 1000000) :
    Calls Try.prog 84 #[.agg #[.slice A0 x.f0.length c0, .slice A1 x.f1.length c1, .int .i64 x.f2], .pointer (some ⟨g, 0, none⟩)] w fun e w' => e = .returned (.bool (decide (q ∈ x.f1))) ∧ Below w.heap.size w w' := by
  have HG := Aside0.mk hg
  have HG1 := Aside0.mk g1
  have hm := g1.2.1
  have HE : Aside0 (∃ k, PWaveReady.slices_Contains_int_int.f k x.f1 q = some (decide (q ∈ x.f1))) := ⟨(Wv.contains_ev x.f1 q (by omega)).rounds⟩
  clear hg g1
  go_enter Try.func84, Try.ntmps84
  go_upto_region 1 with fail
  have HB : Aside0 (Below w.heap.size w (w.alloc (Obj.cells #[.slice A0 x.f0.length c0, .slice A1 x.f1.length c1, .int .i64 x.f2] 51))) := ⟨(Below.refl _ w).alloc (Nat.le_refl _) _⟩
  have K1 := Aside0.mk (grown_new (w := w) #[.slice A0 x.f0.length c0, .slice A1 x.f1.length c1, .int .i64 x.f2] 51)
  generalize w.alloc (Obj.cells #[.slice A0 x.f0.length c0, .slice A1 x.f1.length c1, .int .i64 x.f2] 51) = w1 at HB K1 ⊢
  obtain ⟨b1, hb1⟩ : ∃ b, w.heap.size = b := ⟨_, rfl⟩
  rw [hb1] at K1 ⊢
  clear hb1
  replace HG := Aside0.mk (blk_below HG.out HB.out)
  replace HG1 := Aside0.mk (Kd.C_below HG1.out HB.out)
  have K1c1 := (blk_cell K1.out 1).trans (show _ = some (.slice A1 x.f1.length c1) from rfl)
  have Gc := (blk_cell HG.out 0).trans (show _ = some (.int .i64 q) from rfl)
  go_wp2_with fail
  obtain ⟨k, hk⟩ := HE.out
  have hcc := PWaveReady.slices_Contains_int_int.calls k A1 c1 x.f1 q _ w1 HG1.out l1 hk
  clear hk
  refine hcc.mono ?_
  clear hcc
  rintro e w2 ⟨rfl, hd⟩
  have HB2 : Aside0 (Below w.heap.size w w2) := ⟨by obtain ⟨n, rfl⟩ := hd.out; exact pw_below_drewN HB.out n⟩
  clear hd
  go_wp2_with fail
  go_ret
  exact ⟨rfl, HB2.out⟩
set_option maxHeartbeats 1000000 in
set_option maxRecDepth 100000 in
theorem idx83_calls (q : Int) (g : Nat) (A : Option Addr) (c : Nat) (ws : List S51) (w : World) (hg : w.heap[g]? = some (.cells #[.int .i64 q] 3 (0, 0))) (hC : k51.C w A ws.length ws) (hz : Psz ws) :
    Calls Try.prog 83 #[.slice A ws.length c, .func (.func 84) #[] #[.pointer (some ⟨g, 0, none⟩)]] w fun e w' => e = .returned (.int .i64 (waveF ws q)) ∧ Below w.heap.size w w' := by
  have HC := Aside0.mk hC
  have HG := Aside0.mk hg
  have HZ := Aside0.mk hz
  have hmax := hC.2.1
  have hcf := cf84
  clear hC hg hz
  go_enter Try.func83, Try.ntmps83
  go_wp2_with fail
  go_loopg [5, 8] ws.length (fun kq v5 v8 wr => ∃ i : Nat, v8 = .int .i64 i ∧ i + kq = ws.length ∧ Aside0 (waveL q (ws.drop i) i = waveF ws q) ∧ Aside0 (Below w.heap.size w wr))
  case atStart => exact ⟨0, rfl, by omega, ⟨rfl⟩, ⟨Below.refl _ _⟩⟩
  case round =>
    obtain ⟨i, rfl, hi, HF, HB⟩ := hrel
    by_cases hlt : i < ws.length
    · have hlt' : (i : Int) < (ws.length : Int) := by omega
      obtain ⟨ad, A0, c0, A1, c1, ea, y0, y1, y2, l0, g0, l1, g1⟩ := at_T51 (Kd.C_below HC.out HB.out) i (by omega) hlt'
      subst ea
      rw [at51 ws hlt] at y0 y1 y2 l0 g0 l1 g1
      simp only [Int.toNat_natCast] at y0 y1 y2
      have HX : Aside0 (waveF ws q = if q ∈ ws[i].f1 then (i : Int) else waveL q (ws.drop (i + 1)) (i + 1)) := ⟨by rw [← HF.out, List.drop_eq_getElem_cons hlt]; rfl⟩
      have HCL := Aside0.mk (has84_calls ws[i] A0 A1 c0 c1 q g wr (blk_below HG.out HB.out) l1 g1 (HZ.out.rows1 _ (List.getElem_mem hlt)))
      clear g0 g1
      generalize ws[i] = x at y0 y1 y2 l0 l1 HX HCL
      go_wp2_with fail
      refine HCL.out.mono ?_
      rintro e w2 ⟨rfl, hb⟩
      have HB2 := Aside0.mk (HB.out.trans (hb.mono HB.out.size))
      clear hb y0 y1 y2 HCL
      by_cases hq : q ∈ x.f1
      · rw [decide_eq_true hq]
        have HR : Aside0 ((i : Int) = waveF ws q) := ⟨by rw [HX.out, if_pos hq]⟩
        clear hq
        go_wp2_with fail
        go_ret
        exact ⟨by rw [← HR.out]; rfl, HB2.out⟩
      · rw [decide_eq_false hq]
        have HR : Aside0 (waveL q (ws.drop (i + 1)) (i + 1) = waveF ws q) := ⟨by rw [HX.out, if_neg hq]⟩
        clear hq
        go_wp2_with fail
        go_roundg (gk - 1)
        case measure => omega
        case rel => exact ⟨i + 1, by go_num, by omega, HR, HB2⟩
    · have HR : Aside0 ((-1 : Int) = waveF ws q) := ⟨by
        have hf := HF.out
        rw [List.drop_of_length_le (by omega)] at hf
        exact hf⟩
      go_wp2_with fail
      go_ret
      exact ⟨by rw [← HR.out]; rfl, HB.out⟩
set_option maxHeartbeats 1000000 in
set_option maxRecDepth 100000 in
theorem wave_calls (b d : Int) (A : Option Addr) (c : Nat) (ws : List S51) (q : Int) (w : World) (hC : k51.C w A ws.length ws) (hcap : ws.length ≤ c) (hz : Psz ws) :
    Calls Try.prog 32 #[.agg #[.int .i64 b, .int .i64 d, .slice A ws.length c], .int .i64 q] w fun e w' => e = .returned (.int .i64 (waveF ws q)) ∧ Below w.heap.size w w' := by
  have HC := Aside0.mk hC
  have HZ := Aside0.mk hz
  clear hC hz
  go_enter Try.func32, Try.ntmps32
  go_upto_region 1 with fail
  have HB : Aside0 (Below w.heap.size w ((w.alloc (Obj.cells #[.int .i64 b, .int .i64 d, .slice A ws.length c] 43)).alloc (Obj.cells #[.int .i64 q] 3))) := ⟨((Below.refl _ w).alloc (Nat.le_refl _) _).alloc (by simp) _⟩
  have K1 := Aside0.mk (blk_alloc (grown_new (w := w) #[.int .i64 b, .int .i64 d, .slice A ws.length c] 43) (Obj.cells #[.int .i64 q] 3))
  have K2 := Aside0.mk (grown_new (w := w.alloc (Obj.cells #[.int .i64 b, .int .i64 d, .slice A ws.length c] 43)) #[.int .i64 q] 3)
  simp only [World.size_alloc] at K2
  generalize (w.alloc (Obj.cells #[.int .i64 b, .int .i64 d, .slice A ws.length c] 43)).alloc (Obj.cells #[.int .i64 q] 3) = w1 at HB K1 K2 ⊢
  obtain ⟨b1, hb1⟩ : ∃ b, w.heap.size = b := ⟨_, rfl⟩
  obtain ⟨b2, hb2⟩ : ∃ b, w.heap.size + 1 = b := ⟨_, rfl⟩
  rw [hb2] at K2 ⊢
  rw [hb1] at K1 ⊢
  clear hb1 hb2
  have K1c2 := (blk_cell K1.out 2).trans (show _ = some (.slice A ws.length c) from rfl)
  go_wp2_with fail
  refine (idx83_calls q b2 A c ws w1 K2.out (Kd.C_below HC.out HB.out) HZ.out).mono ?_
  rintro e w2 ⟨rfl, hb⟩
  have HB2 := Aside0.mk (HB.out.trans (hb.mono HB.out.size))
  clear hb
  go_wp2_with fail
  go_ret
  exact ⟨rfl, HB2.out⟩
end Go.Proofs.Ytkeadpichlgagaa.Pla
