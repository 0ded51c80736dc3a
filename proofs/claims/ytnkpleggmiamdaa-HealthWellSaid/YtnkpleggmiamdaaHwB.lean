/- health: Sicks, walked. -/
import Derived.Test.YtnkpleggmiamdaaHwA
import Derived.Test.YtnkpleggmiamdaaKeA
import Derived.Test.YtnkpleggmiamdaaKeD
import Derived.Test.YtnkpleggmiamdaaSl
import Derived.Lib.OwnBridge
import Derived.Lib.EndianMore
import Derived.Lib.SliceRun
namespace Go.Proofs.Ytnkpleggmiamdaa.He
open Go.RowKit Go.Maps Go.Lib Go.Sort Go.Shelf Go.Proofs.YtnkpleggmiamdaaW.PrintWords Go.Proofs.YtnkpleggmiamdaaW.PrintLast Go.Proofs.YtnkpleggmiamdaaW.PrintMore
open Go.Proofs.Ytnkpleggmiamdaa.PHealthApart Go.Proofs.Ytnkpleggmiamdaa.Mp Go.Proofs.Ytnkpleggmiamdaa.Ke
set_option linter.unusedVariables false
set_option linter.unusedSimpArgs false

abbrev R3 (w : World) (B : Nat) (v : Value) (xs : List Int) : Prop := (Kd.int .i64).R 3 w B (fun k => B ≤ k) v xs
theorem R3_of_own {w : World} {B : Nat} {v : Value} {xs : List Int} {n : Nat} (h : w.ownsRow B 3 1 v n (xs.map (Value.int .i64))) : R3 w B v xs ∧ n = xs.length := by
  have hn : n = xs.length := by have := h.1; simp at this; omega
  subst hn
  exact ⟨Kd.R_of_own (α := Int) (enc := Value.int .i64) (h1 := fun _ => rfl) h (fun k hk => (h.lt k hk).1), rfl⟩
theorem own_of_R3 {w : World} {B : Nat} {v : Value} {xs : List Int} {ok : Nat → Prop} (h : (Kd.int .i64).R 3 w B ok v xs) : w.ownsRow B 3 1 v xs.length (xs.map (Value.int .i64)) := Kd.own_of_R (α := Int) (enc := Value.int .i64) (h1 := fun _ => rfl) h
theorem sortWorld_heap {w : World} {blk off m : Nat} {dk : Array Int} {os : Array Obj} (j : Nat) (hj : j < w.heap.size) (hne : j ≠ blk) : (sortWorld (Value.int .i64) w blk off m dk os).heap[j]? = w.heap[j]? := by
  unfold sortWorld
  rw [heap_grow_old _ _ (by rw [size_putRow]; exact hj)]
  show (w.heap.modify blk _)[j]? = _
  rw [Array.getElem?_modify, if_neg (fun e => hne e.symm)]

/-- A watch, and the variable that points to it. -/
structure BoxIs (w : World) (Bb p bm : Nat) (win lim : Int) (M : List (Int × Kn)) : Prop where
  box : w.heap[Bb]? = some (.cells #[.pointer (some ⟨p, 0, none⟩)] 58 (0, 0))
  is : WatchIs w p bm win lim M
theorem BoxIs.move {w W : World} {Bb p bm : Nat} {win lim : Int} {M : List (Int × Kn)} (h : BoxIs w Bb p bm win lim M) (hm : ∀ j, j = Bb ∨ j = p ∨ j = bm → W.heap[j]? = w.heap[j]?) : BoxIs W Bb p bm win lim M :=
  ⟨(hm _ (.inl rfl)).trans h.box, ⟨(hm _ (.inr (.inl rfl))).trans h.is.blk, h.is.map.move (hm _ (.inr (.inr rfl)))⟩⟩
theorem BoxIs.below {w W : World} {Bb p bm : Nat} {win lim : Int} {M : List (Int × Kn)} (h : BoxIs w Bb p bm win lim M) (hb : Below w.heap.size w W) : BoxIs W Bb p bm win lim M :=
  ⟨blk_below h.box hb, h.is.below hb⟩

set_option maxRecDepth 100000 in
theorem sick_drew (p bm : Nat) (win lim : Int) (M : List (Int × Kn)) (c : Int) (w : World) (h : WatchIs w p bm win lim M) :
    Calls Try.prog 34 #[.pointer (some ⟨p, 0, none⟩), .int .i64 c] w fun e w' => e = .returned (.bool (sickF M lim c)) ∧ ∃ n, w' = w.drewN n := by
  obtain ⟨r, hr⟩ := ones_some (knF M c).2.2
  have e : sickF M lim c = decide (lim ≤ r) := by unfold sickF; rw [hr]; rfl
  rw [e]
  clear e
  have c1 : w.cell? ⟨p, 1, none⟩ = some (.int .i64 lim) := (blk_cell h.blk 1).trans rfl
  have c2 : w.cell? ⟨p, 2, none⟩ = some (.map (some bm)) := (blk_cell h.blk 2).trans rfl
  have hl := fun n => run_lookup Try.underlying116 Try.underlying3 (zeroK (w.drewN n)) (h.map.drewN n) c false
  simp only [known_get, Bool.false_eq_true, if_false] at hl
  simp only [encK] at hl
  have HR := Aside0.mk hr
  clear h hr
  have hf := fld2
  go_enter Try.func34, Try.ntmps34
  go_wp2
  go_quiet ((go_at_call 69; exact Calls.quiet_of ((bits_OnesCount64.calls _ _ _ HR.out).mono fun e w' ⟨he, hd⟩ => ⟨he, hd.out⟩)))
  go_wp2
  go_ret
  exact ⟨rfl, _, rfl⟩

set_option maxRecDepth 100000 in
theorem gives72 (Bb p bm : Nat) (win lim : Int) (M : List (Int × Kn)) (x : Int) (W : World) (h : BoxIs W Bb p bm win lim M) :
    FnGives Try.prog 72 #[.pointer (some ⟨Bb, 0, none⟩)] #[.int .i64 x] (.bool (!sickF M lim x)) W := by
  show Calls Try.prog 72 #[.int .i64 x, .pointer (some ⟨Bb, 0, none⟩)] W _
  have c0 : W.cell? ⟨Bb, 0, none⟩ = some (.pointer (some ⟨p, 0, none⟩)) := (blk_cell h.box 0).trans rfl
  have HI := Aside0.mk h.is
  clear h
  go_enter Try.func72, Try.ntmps72
  go_wp2_with fail
  refine (sick_drew p bm win lim M x W HI.out).mono ?_
  rintro e w' ⟨rfl, n, rfl⟩
  go_wp2_with fail
  go_ret
  exact ⟨rfl, _, rfl⟩
set_option maxRecDepth 100000 in
theorem idxnil_calls (g : Nat) (lb : Array Value) (w : World) : Calls Try.prog 90 #[.slice none 0 0, .func (.func g) #[] lb] w fun e w' => e = .returned (.int .i64 (-1)) ∧ w' = w := by
  go_enter Try.func90, Try.ntmps90
  go_wp2_with fail
  go_loopg [5, 8] 0 (fun kq v5 v8 wr => v8 = .int .i64 0 ∧ Aside0 (wr = w))
  case atStart => exact ⟨rfl, ⟨rfl⟩⟩
  case round =>
    obtain ⟨rfl, HW⟩ := hrel
    go_wp2_with fail
    go_ret
    exact ⟨rfl, HW.out⟩
set_option maxRecDepth 100000 in
theorem delnil_calls (g : Nat) (lb : Array Value) (w : World) : Calls Try.prog 70 #[.slice none 0 0, .func (.func g) #[] lb] w fun e w' => e = .returned (.slice none 0 0) ∧ w' = w := by
  go_enter Try.func70, Try.ntmps70
  go_wp2_with fail
  refine (idxnil_calls g lb w).mono ?_
  rintro e w1 ⟨rfl, rfl⟩
  go_wp2_with fail
  go_ret
  exact ⟨rfl, rfl⟩
def sicksF (M : List (Int × Kn)) (lim : Int) : List Int := (asc (M.map (·.1))).filter (fun c => sickF M lim c)
theorem del_calls (Bb p bm : Nat) (win lim : Int) (M : List (Int × Kn)) (B : Nat) (v : Value) (xs : List Int) (w : World) (hR : R3 w B v xs) (h : BoxIs w Bb p bm win lim M) (hB : Bb < B ∧ p < B ∧ bm < B) (hl : xs.length ≤ 1000000) :
    Calls Try.prog 70 #[v, .func (.func 72) #[] #[.pointer (some ⟨Bb, 0, none⟩)]] w fun e w' => ∃ v', e = .returned v' ∧ R3 w' B v' (xs.filter (fun c => sickF M lim c)) ∧ Below B w w' := by
  have hO := own_of_R3 hR
  by_cases hv : v = .slice none 0 0
  · subst hv
    have hx : xs = [] := by
      rcases hO.2 with ⟨_, h⟩ | ⟨_, _, _, h, _⟩
      · exact List.length_eq_zero_iff.1 h
      · cases h
    subst hx
    exact (delnil_calls 72 _ w).mono fun e w' ⟨he, hw⟩ => ⟨_, he, Kd.R_nil _ _ _ _ _, by rw [hw]; exact Below.refl _ _⟩
  · obtain ⟨g, cap, rfl, hg, hgl, hcap, hmx, _, hH⟩ := holds_of_ownsRow hO hv
    have eg : ∀ args w, (callFunc 72 args).run Try.prog w = .ok (.enter 72 args) w := enters_of Try.func72 (by kernel_rfl) rfl
    have hcon := AnyE.slices_DeleteFunc Ke.delA (Value.int .i64) (fun _ => rfl) (fun x => !sickF M lim x) 72 #[.pointer (some ⟨Bb, 0, none⟩)] eg 0 Try.zeroValue3 g 0 cap xs.toArray w
      (fun W x hb => gives72 Bb p bm win lim M x W (h.below hb))
      (fun n os dk x _ => gives72 Bb p bm win lim M x _ (h.move (fun j hj => sortWorld_heap j (by rcases hj with rfl | rfl | rfl
                                                                                                  · exact blk_lt h.box
                                                                                                  · exact blk_lt h.is.blk
                                                                                                  · exact h.is.map.lt) (by omega)))) hH (by simp; omega) (by simpa using hcap)
    simp only [List.size_toArray, Bool.not_not] at hcon
    refine hcon.mono ?_
    rintro e w' ⟨he, q, hw⟩
    have hfl : (xs.filter fun c => sickF M lim c).length ≤ xs.length := List.length_filter_le _ _
    have ho := ownsRow_putRow (q := q) (k := (xs.filter fun c => sickF M lim c).length) (ys := (xs.filter fun c => sickF M lim c) ++ List.replicate (xs.length - (xs.filter fun c => sickF M lim c).length) 0) hO (by rw [List.length_append, List.length_replicate]; omega) hfl
    rw [List.take_left] at ho
    refine ⟨_, he, ?_, ?_⟩
    · rw [hw]; exact (R3_of_own ho).1
    · rw [hw]; exact below_putRow (Below.refl _ _) hg
structure MapOk (M : List (Int × Kn)) : Prop where
  wf : ∀ x ∈ M, (Lit.int .i64 x.1).wf = true
  nd : (M.map (·.1)).Nodup
  len : M.length ≤ 100000
theorem amapK_keys (M : List (Int × Kn)) : (amap encK M).map (·.1) = M.map (·.1) := by simp [amap]
theorem asc_length (l : List Int) : (asc l).length = l.length := by unfold asc; rw [List.length_mergeSort]
set_option maxRecDepth 100000 in
theorem sicks_calls (p bm : Nat) (win lim : Int) (M : List (Int × Kn)) (w : World) (h : WatchIs w p bm win lim M) (hok : MapOk M) :
    Calls Try.prog 36 #[.pointer (some ⟨p, 0, none⟩)] w fun e w' => ∃ v, e = .returned v ∧ R3 w' w.heap.size v (sicksF M lim) ∧ Below w.heap.size w w' := by
  have H := Aside0.mk h
  have HOK := Aside0.mk hok
  have HBx : Aside0 (BoxIs (w.alloc (.cells #[.pointer (some ⟨p, 0, none⟩)] 58)) w.heap.size p bm win lim M) := ⟨⟨blk_new _ _, h.below ((Below.refl _ _).alloc (Nat.le_refl _) _)⟩⟩
  have HB1 : Aside0 (Below w.heap.size w (w.alloc (.cells #[.pointer (some ⟨p, 0, none⟩)] 58))) := ⟨(Below.refl _ _).alloc (Nat.le_refl _) _⟩
  clear h hok
  have c2 : (w.alloc (.cells #[.pointer (some ⟨p, 0, none⟩)] 58)).cell? ⟨p, 2, none⟩ = some (.map (some bm)) := (blk_cell HBx.out.is.blk 2).trans rfl
  go_enter Try.func36, Try.ntmps36
  go_wp2_with fail
  generalize hbx : w.heap.size = bx at HBx HB1 ⊢
  have HBX := Aside0.mk hbx
  clear hbx
  generalize w.alloc (.cells #[.pointer (some ⟨p, 0, none⟩)] 58) = w1 at HBx HB1 c2 ⊢
  refine (keysH_calls (some bm) w1).mono ?_
  rintro e w2 ⟨rfl, hw2⟩
  have HB2 : Aside0 (Below w1.heap.size w1 w2) := ⟨by rw [hw2]; exact (Below.refl _ _).alloc (Nat.le_refl _) _⟩
  have HBx2 := Aside0.mk (HBx.out.below HB2.out)
  have HK : Aside0 (w2.heap[w1.heap.size]? = some (.cells #[.map (some bm)] 116 (0, 0))) := ⟨by rw [hw2]; exact blk_new _ _⟩
  clear hw2 c2
  go_wp2_with fail
  refine (sortedH_calls w1.heap.size bm (amap encK M) w2 HBx2.out.is.map ((blk_cell HK.out 0).trans rfl) ?_ ?_ ?_).mono ?_
  · intro x hx
    obtain ⟨y, hy, rfl⟩ := List.mem_map.1 hx
    exact HOK.out.wf y hy
  · rw [amapK_keys]; exact HOK.out.nd
  · have := HOK.out.len; simpa [amap] using this
  rintro e w3 ⟨v, rfl, hR, hB⟩
  rw [amapK_keys] at hR
  have HR := Aside0.mk hR
  have HB3 := Aside0.mk hB
  have HBx3 := Aside0.mk (HBx2.out.below hB)
  have HLT : Aside0 (bx < w2.heap.size ∧ p < w2.heap.size ∧ bm < w2.heap.size) := ⟨blk_lt HBx2.out.box, blk_lt HBx2.out.is.blk, HBx2.out.is.map.lt⟩
  clear hR hB
  go_wp2_with fail
  refine (del_calls bx p bm win lim M w2.heap.size v _ w3 HR.out HBx3.out HLT.out (by rw [asc_length, List.length_map]; have := HOK.out.len; omega)).mono ?_
  rintro e w4 ⟨v4, rfl, hR, hB⟩
  have h12 : bx ≤ w2.heap.size := by have := HLT.out.1; omega
  go_wp2_with fail
  go_ret
  rw [HBX.out]
  exact ⟨_, rfl, Kd.R_mono (Kd.R_lower hR h12) (fun k hk => Nat.le_trans h12 hk), HB1.out.trans ((HB2.out.mono (by have := HB1.out.size; have := HBX.out; omega)).trans ((HB3.out.mono h12).trans (hB.mono h12)))⟩
end Go.Proofs.Ytnkpleggmiamdaa.He
