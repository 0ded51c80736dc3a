/- Kept of the text LeE: what is reached (wip/tools/prune.py). -/
import Derived.Test.YtnkpleggmiamdaaVLeD
namespace Go.Proofs.Ytnkpleggmiamdaa.Le
open Go.RowKit Go.Maps Go.Proofs.YtnkpleggmiamdaaW.PrintWords Go.Proofs.YtnkpleggmiamdaaW.PrintLast Go.Proofs.YtnkpleggmiamdaaW.PrintMore
open Go.Proofs.Ytnkpleggmiamdaa.PLeaseFull Go.Proofs.Ytnkpleggmiamdaa.Mp
set_option linter.unusedVariables false
set_option linter.unusedSimpArgs false
theorem TabOk.nil : TabOk [] := ⟨fun x hx => (by cases hx), List.nodup_nil, Nat.zero_le _⟩
theorem TabOk.put {M : Tab} (h : TabOk M) {k v : Int} (hw : (Lit.int .i64 k).wf = true) (hl : M.length + 1 ≤ 100000) : TabOk (aput k v M) := by
  refine ⟨fun x hx => ?_, nodup_put h.nd, ?_⟩
  · have hm : x.1 ∈ (aput k v M).map (·.1) := List.mem_map_of_mem hx
    rw [keys_put] at hm
    have : x.1 ∈ M.map (·.1) ∨ x.1 = k := by
      split at hm
      · exact .inl hm
      · rcases List.mem_append.1 hm with h | h
        · exact .inl h
        · exact .inr (by simpa using h)
    rcases this with h1 | h1
    · obtain ⟨y, hy, e⟩ := List.mem_map.1 h1
      rw [← e]
      exact h.wf y hy
    · rw [h1]; exact hw
  · rw [length_put]
    split <;> omega
theorem TabOk.del {M : Tab} (h : TabOk M) (k : Int) : TabOk (adel k M) := by
  refine ⟨fun x hx => ?_, nodup_del h.nd, ?_⟩
  · have hm : x.1 ∈ (adel k M).map (·.1) := List.mem_map_of_mem hx
    rw [keys_del] at hm
    obtain ⟨y, hy, e⟩ := List.mem_map.1 (List.mem_of_mem_erase hm)
    rw [← e]
    exact h.wf y hy
  · have := h.len
    rw [length_del]
    split <;> omega
theorem TabOk.give {o : Int} : ∀ {cs : List Int} {i : Nat} {M : Tab}, TabOk M → (∀ c ∈ cs, (Lit.int .i64 c).wf = true) → M.length + cs.length ≤ 100000 → TabOk (giveF o i cs M)
  | [], _, _, h, _, _ => h
  | c :: r, i, M, h, hw, hl => by
    simp only [List.length_cons] at hl
    show TabOk (giveF o (i + 1) r (aput c (o + i) M))
    refine TabOk.give (h.put (hw c List.mem_cons_self) (by omega)) (fun x hx => hw x (List.mem_cons_of_mem _ hx)) ?_
    rw [length_put]
    split <;> omega
theorem grantE_ok {bud : Int} {M : Tab} {o : Int} {cs : List Int} (h : grantE bud M o cs = 0) : chk M o [] cs = 0 ∧ (cs.length : Int) ≤ bud - M.length := by
  unfold grantE at h
  split at h
  · cases h
  · split at h
    · next h1 => exact absurd h h1
    · next h1 =>
      split at h
      · cases h
      · exact ⟨by rcases Classical.em (chk M o [] cs = 0) with e | e; exact e; exact absurd e h1, by omega⟩
theorem TabOk.grant {bud : Int} {M : Tab} {o : Int} {cs : List Int} (h : TabOk M) (hb : bud ≤ 65535) : TabOk (grantM bud M o cs) := by
  unfold grantM
  split
  · next he =>
    obtain ⟨h1, h2⟩ := grantE_ok he
    exact h.give (fun c hc => rightB_wf (chk_ok h1 c hc).1) (by omega)
  · exact h
theorem TabOk.free : ∀ {xs : List S85} {M : Tab}, TabOk M → TabOk (freeF xs M).2
  | [], _, h => h
  | x :: r, M, h => by
    unfold freeF
    split
    · exact TabOk.free (h.del _)
    · exact TabOk.free h
structure LedB (w0 w : World) (p bm : Nat) (bud : Int) (M : Tab) : Prop where
  is : LedIs w p bm bud M
  ok : TabOk M
  gp : w0.heap.size ≤ p
  gb : w0.heap.size ≤ bm
  below : Below w0.heap.size w0 w
theorem LedB.next {w0 w w1 : World} {p bm : Nat} {bud : Int} {M : Tab} (h : LedB w0 w p bm bud M) (hb : Below w.heap.size w w1) : LedB w0 w1 p bm bud M :=
  ⟨h.is.below hb, h.ok, h.gp, h.gb, h.below.trans (hb.mono h.below.size)⟩
theorem LedB.turn {w0 w w1 : World} {p bm : Nat} {bud : Int} {M M' : Tab} (h : LedB w0 w p bm bud M) (hi : LedIs w1 p bm bud M') (hk : TabOk M') (hf : Fr1 w w1 bm) : LedB w0 w1 p bm bud M' :=
  ⟨hi, hk, h.gp, h.gb, h.below.trans (hf.to_below h.gb h.below.size)⟩
theorem LedB.bm_lt {w0 w : World} {p bm : Nat} {bud : Int} {M : Tab} (h : LedB w0 w p bm bud M) : bm < w.heap.size := by
  obtain ⟨es, c, hb, _⟩ := h.is.map.out
  exact blk_lt hb
theorem grant_in (w0 w : World) (p bm : Nat) (bud : Int) (M : Tab) (o : Int) (A : Option Addr) (c : Nat) (cs : List Int) (h : LedB w0 w p bm bud M) (hC : (Kd.int .i64).C w A cs.length cs) (hcap : cs.length ≤ c) (hA : ∀ k, AtB A k → k ≠ bm) (hb : 0 ≤ bud ∧ bud ≤ 65535) (hl : cs.length ≤ 100000) :
    Calls Try.prog 49 #[.pointer (some ⟨p, 0, none⟩), .int .i64 o, .slice A cs.length c] w fun e w' => e = .returned (.int .i64 (grantE bud M o cs)) ∧ LedB w0 w' p bm bud (grantM bud M o cs) ∧ Fr1 w w' bm :=
  (grant_calls p bm bud M o A c cs w h.is hC hcap hA hb h.ok.len hl).mono fun e w' ⟨he, hi, hf⟩ => ⟨he, h.turn hi (h.ok.grant hb.2) hf, hf⟩
theorem grant_lit (w0 w : World) (p bm : Nat) (bud : Int) (M : Tab) (o : Int) (cs : List Int) (h : LedB w0 w p bm bud M) (hb : 0 ≤ bud ∧ bud ≤ 65535) (hl : cs.length ≤ 100000) :
    Calls Try.prog 49 #[.pointer (some ⟨p, 0, none⟩), .int .i64 o, .slice (some ⟨w.heap.size, 0, none⟩) cs.length cs.length] (w.alloc (.cells (cs.map (Value.int .i64)).toArray 3)) fun e w' => e = .returned (.int .i64 (grantE bud M o cs)) ∧ LedB w0 w' p bm bud (grantM bud M o cs) ∧ Fr1 w w' bm := by
  have hbl : Below w.heap.size w (w.alloc (.cells (cs.map (Value.int .i64)).toArray 3)) := (Below.refl _ _).alloc (Nat.le_refl _) _
  have hC : (Kd.int .i64).C (w.alloc (.cells (cs.map (Value.int .i64)).toArray 3)) (some ⟨w.heap.size, 0, none⟩) cs.length cs :=
    C_of_blk (t := 3) (f := (0, 0)) (xs := cs) (ys := []) (by rw [List.append_nil]; exact blk_new w _) (by omega)
  refine (grant_in w0 _ p bm bud M o _ cs.length cs (h.next hbl) hC (Nat.le_refl _) (fun k hk => ?_) hb hl).mono fun e w' ⟨he, hi, hf⟩ => ⟨he, hi, Fr1.of_new hbl hf⟩
  have e : w.heap.size = k := by simpa [AtB] using hk
  have := h.bm_lt
  omega
theorem free_in (w0 w : World) (p bm : Nat) (bud : Int) (M : Tab) (A : Option Addr) (c : Nat) (xs : List S85) (h : LedB w0 w p bm bud M) (hC : Kd.C k85 w A xs.length xs) (hA : ∀ k, AtB A k → k ≠ bm) (hl : xs.length ≤ 100000) :
    Calls Try.prog 51 #[.pointer (some ⟨p, 0, none⟩), .slice A xs.length c] w fun e w' => e = .returned (.int .i64 (freeF xs M).1) ∧ LedB w0 w' p bm bud (freeF xs M).2 ∧ Fr1 w w' bm :=
  (free_calls p bm bud M A c xs w h.is hC hA hl).mono fun e w' ⟨he, hi, hf⟩ => ⟨he, h.turn hi h.ok.free hf, hf⟩
theorem free_lit (w0 w : World) (p bm : Nat) (bud : Int) (M : Tab) (a b : Int) (h : LedB w0 w p bm bud M) :
    Calls Try.prog 51 #[.pointer (some ⟨p, 0, none⟩), .slice (some ⟨w.heap.size, 0, none⟩) 1 1] (w.alloc (.cells #[.int .i64 a, .int .i64 b] 85)) fun e w' => e = .returned (.int .i64 (freeF [⟨a, b⟩] M).1) ∧ LedB w0 w' p bm bud (freeF [⟨a, b⟩] M).2 ∧ Fr1 w w' bm := by
  have hbl : Below w.heap.size w (w.alloc (.cells #[.int .i64 a, .int .i64 b] 85)) := (Below.refl _ _).alloc (Nat.le_refl _) _
  have hC : Kd.C k85 (w.alloc (.cells #[.int .i64 a, .int .i64 b] 85)) (some ⟨w.heap.size, 0, none⟩) 1 [⟨a, b⟩] := by
    refine ⟨rfl, by omega, fun _ => ⟨_, rfl, fun j p hj => ?_⟩⟩
    have hj0 : j = 0 := by
      rcases j with _ | j
      · rfl
      · simp at hj
    subst hj0
    have hp : p = ⟨a, b⟩ := by simpa using hj.symm
    subst hp
    refine ⟨[.int .i64 a, .int .i64 b], rfl, k85_mk _ _, fun i u hu => ?_⟩
    have hb := blk_new w (.cells #[.int .i64 a, .int .i64 b] 85)
    rcases i with _ | _ | i
    · cases hu; exact (blk_cell hb 0).trans rfl
    · cases hu; exact (blk_cell hb 1).trans rfl
    · simp at hu
  refine (free_in w0 _ p bm bud M _ 1 [⟨a, b⟩] (h.next hbl) hC (fun k hk => ?_) (by simp)).mono fun e w' ⟨he, hi, hf⟩ => ⟨he, hi, Fr1.of_new hbl hf⟩
  have e : w.heap.size = k := by simpa [AtB] using hk
  have := h.bm_lt
  omega
theorem new_in (n : Int) (w : World) (h : 1 ≤ n ∧ n ≤ 65535) (w0 : World) (hB : Below w0.heap.size w0 w) : Calls Try.prog 48 #[.int .i64 n] w fun e w' => ∃ p bm, e = .returned (.tuple #[.pointer (some ⟨p, 0, none⟩), .int .i64 0]) ∧ LedB w0 w' p bm n [] := by
  refine (new_calls n w h).mono ?_
  rintro e w' ⟨p, bm, rfl, hi, h1, h2, hb⟩
  exact ⟨p, bm, rfl, hi, TabOk.nil, Nat.le_trans hB.size h1, Nat.le_trans hB.size h2, hB.trans (hb.mono hB.size)⟩
set_option maxHeartbeats 1000000 in
set_option maxRecDepth 100000 in
theorem awake_calls (w : World) : Calls Try.prog 47 #[] w fun e w' => e = .returned (.bool true) ∧ Below w.heap.size w w' := by
  go_enter Try.func47, Try.ntmps47
  go_wp2_with fail
  refine (new_in 2 w (by omega) w (Below.refl _ _)).mono ?_
  rintro e w1 ⟨p, bm, rfl, h⟩
  have H1 := Aside0.mk h
  clear h
  go_wp2_with fail
  refine (grant_lit w w1 p bm 2 [] 1 [7, 9] H1.out (by omega) (by simp)).mono ?_
  rintro e w2 ⟨rfl, h, _⟩
  rw [show grantM 2 [] 1 [7, 9] = [(7, 1), (9, 2)] from by decide +kernel] at h
  rw [show grantE 2 [] 1 [7, 9] = 0 from by decide +kernel]
  have H2 := Aside0.mk h
  clear h
  go_wp2_with fail
  refine (grant_lit w w2 p bm 2 _ 3 [8] H2.out (by omega) (by simp)).mono ?_
  rintro e w3 ⟨rfl, h, _⟩
  rw [show grantM 2 [(7, 1), (9, 2)] 3 [8] = [(7, 1), (9, 2)] from by decide +kernel] at h
  rw [show grantE 2 [(7, 1), (9, 2)] 3 [8] = 121 from by decide +kernel]
  have H3 := Aside0.mk h
  clear h
  go_wp2_with fail
  refine (grant_lit w w3 p bm 2 _ 3 [7] H3.out (by omega) (by simp)).mono ?_
  rintro e w4 ⟨rfl, h, _⟩
  rw [show grantM 2 [(7, 1), (9, 2)] 3 [7] = [(7, 1), (9, 2)] from by decide +kernel] at h
  rw [show grantE 2 [(7, 1), (9, 2)] 3 [7] = 120 from by decide +kernel]
  have H4 := Aside0.mk h
  clear h
  go_wp2_with fail
  refine (free_lit w w4 p bm 2 _ 7 2 H4.out).mono ?_
  rintro e w5 ⟨rfl, h, _⟩
  rw [show freeF [⟨7, 2⟩] [(7, 1), (9, 2)] = (0, [(7, 1), (9, 2)]) from by decide +kernel] at h
  rw [show ((freeF [⟨7, 2⟩] [(7, 1), (9, 2)]).1 : Int) = 0 from by decide +kernel]
  have H5 := Aside0.mk h
  clear h
  go_wp2_with fail
  refine (free_lit w w5 p bm 2 _ 7 1 H5.out).mono ?_
  rintro e w6 ⟨rfl, h, _⟩
  rw [show freeF [⟨7, 1⟩] [(7, 1), (9, 2)] = (1, [(9, 2)]) from by decide +kernel] at h
  rw [show ((freeF [⟨7, 1⟩] [(7, 1), (9, 2)]).1 : Int) = 1 from by decide +kernel]
  have H6 := Aside0.mk h
  clear h
  go_wp2_with fail
  refine (left_calls p bm 2 _ w6 H6.out.is (by omega) (by simp)).mono ?_
  rintro e w7 ⟨rfl, hb⟩
  rw [show (2 : Int) - (([((9 : Int), (2 : Int))] : Tab).length : Int) = 1 from by decide +kernel]
  have H7 := Aside0.mk (H6.out.next hb)
  clear hb
  go_wp2_with fail
  refine (order_calls p bm 2 _ 9 w7 H7.out.is).mono ?_
  rintro e w8 ⟨rfl, rfl⟩
  rw [show get [(9, 2)] 9 = 2 from by decide +kernel]
  go_wp2_with fail
  go_ret
  exact ⟨rfl, H7.out.below⟩
end Go.Proofs.Ytnkpleggmiamdaa.Le
