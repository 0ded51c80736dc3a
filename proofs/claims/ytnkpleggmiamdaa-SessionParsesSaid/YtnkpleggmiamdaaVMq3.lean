/- Kept of the text Mq3: what is reached (wip/tools/prune.py). -/
import Derived.Test.YtnkpleggmiamdaaVG5
import Derived.Test.YtnkpleggmiamdaaVPSessionParsesx1
import Derived.Test.YtnkpleggmiamdaaVMq2
namespace Go.Proofs.Ytnkpleggmiamdaa.PSessionParses
open Go.RowKit Go.Proofs.YtnkpleggmiamdaaW.PrintWords Go.Proofs.YtnkpleggmiamdaaW.PrintLast Go.Proofs.YtnkpleggmiamdaaW.PrintMore
attribute [local go_sem] max2_int min2_int max_two min_two max_three min_three max_four min_four   -- for this text's walks alone
set_option linter.unusedVariables false
set_option linter.unusedSimpArgs false
mutual
def echelonref01_Take.l0 : Nat → List Int → Int → List ByteArray → Int → Int → List (S105) → Option (Int × List Int × (List (S105)) × Int × Int)
  | 0, _, _, _, _, _, _ => none
  | k + 1, x1, x2, x10, x11, x124000, x124002 => if x11 < (x10.length : Int) then (if 0 ≤ x11 then ((echelonref01_Take.f k (rdOf ByteArray.empty x10 x11) x1 x2).bind fun bt128 => (if bt128.2.2.2.2 = 0 then (if x124002.length < 2513169434916 then (echelonref01_Take.l0 k x1 bt128.2.2.2.1 x10 (wrap64 (x11 + 1)) x124000 (x124002 ++ [(⟨bt128.1, bt128.2.1, bt128.2.2.1⟩ : S105)])) else (none)) else (some (0, ([] : List Int), ([] : List (S105)), x2, bt128.2.2.2.2)))) else (none)) else (some (x124000, ([] : List Int), x124002, x2, 0))
def echelonref01_Take.j1 : Nat → ByteArray → List Int → Int → Int → Bool → Int → Option (Int × List Int × (List (S105)) × Int × Int)
  | 0, _, _, _, _, _, _ => none
  | k + 1, x0, x1, x2, x15, x18, x124000 => if x18 = true then (echelonref01_Take.j2 k x0 x1 x2 x15 x18 (decide (x15 > (IntKind.u64.wrap (wrap64 ((x1.length : Int) - x2))))) x124000) else (echelonref01_Take.j2 k x0 x1 x2 x15 x18 false x124000)
def echelonref01_Take.j2 : Nat → ByteArray → List Int → Int → Int → Bool → Bool → Int → Option (Int × List Int × (List (S105)) × Int × Int)
  | 0, _, _, _, _, _, _, _ => none
  | k + 1, x0, x1, x2, x15, x18, x97, x124000 => if x97 = true then (some (x124000, ([] : List Int), ([] : List (S105)), x2, 11)) else (if x15 > 1048576 then (echelonref01_Take.j3 k x0 x1 x2 x15 (!x18) x124000) else (echelonref01_Take.j3 k x0 x1 x2 x15 false x124000))
def echelonref01_Take.j3 : Nat → ByteArray → List Int → Int → Int → Bool → Int → Option (Int × List Int × (List (S105)) × Int × Int)
  | 0, _, _, _, _, _, _ => none
  | k + 1, x0, x1, x2, x15, x105, x124000 => if x105 = true then (some (x124000, ([] : List Int), ([] : List (S105)), x2, 13)) else (if 0 < (x0.size : Int) then (if (bt x0 0) = 98 then (if 0 ≤ x2 then (if x2 ≤ (wrap64 (x2 + (wrap64 (x15)))) then (if (wrap64 (x2 + (wrap64 (x15)))) ≤ (x1.length : Int) then (if ([] : List Int).length + ((x1.take ((wrap64 (x2 + (wrap64 (x15)))) : Int).toNat).drop (x2 : Int).toNat).length < 140737488355328 then (some (x124000, (([] : List Int) ++ ((x1.take ((wrap64 (x2 + (wrap64 (x15)))) : Int).toNat).drop (x2 : Int).toNat)), ([] : List (S105)), wrap64 (x2 + (wrap64 (x15))), 0)) else (none)) else (none)) else (none)) else (none)) else (echelonref01_Take.l1 k x0 x1 x2 x15 0 x124000 ([] : List (S105)))) else (none))
def echelonref01_Take.l1 : Nat → ByteArray → List Int → Int → Int → Int → Int → List (S105) → Option (Int × List Int × (List (S105)) × Int × Int)
  | 0, _, _, _, _, _, _, _ => none
  | k + 1, x0, x1, x2, x15, x19, x124000, x124002 => if x19 < (wrap64 (x15)) then (if 1 ≤ (x0.size : Int) then ((echelonref01_Take.f k (x0.extract 1 x0.size) x1 x2).bind fun bt149 => (if bt149.2.2.2.2 = 0 then (if x124002.length < 2513169434916 then (echelonref01_Take.l1 k x0 x1 bt149.2.2.2.1 x15 (wrap64 (x19 + 1)) x124000 (x124002 ++ [(⟨bt149.1, bt149.2.1, bt149.2.2.1⟩ : S105)])) else (none)) else (some (0, ([] : List Int), ([] : List (S105)), x2, bt149.2.2.2.2)))) else (none)) else (some (x124000, ([] : List Int), x124002, x2, 0))
def echelonref01_Take.f : Nat → ByteArray → List Int → Int → Option (Int × List Int × (List (S105)) × Int × Int)
  | 0, _, _, _ => none
  | k + 1, a0, l1, a2 => if 0 < (a0.size : Int) then (if (bt a0 0) = 91 then ((echelonref01_rows.f k a0).bind fun t124 => (echelonref01_Take.l0 k l1 a2 t124 0 0 ([] : List (S105)))) else ((echelonref01_number.f k l1 a2).bind fun bt141 => (if bt141.2.2 = 0 then (if (bt a0 0) = 110 then (some (bt141.1, ([] : List Int), ([] : List (S105)), bt141.2.1, 0)) else (if (bt a0 0) = 98 then (echelonref01_Take.j1 k a0 l1 bt141.2.1 bt141.1 true 0) else (if 1 ≤ (a0.size : Int) then ((echelonref01_Some.f k (a0.extract 1 a0.size)).bind fun t144 => (echelonref01_Take.j1 k a0 l1 bt141.2.1 bt141.1 t144 0)) else (none)))) else (some (0, ([] : List Int), ([] : List (S105)), a2, bt141.2.2))))) else (none)
end
theorem echelonref01_Take.mono_l : ∀ k, (∀ y0 y1 y2, LeO (echelonref01_Take.f k y0 y1 y2) (echelonref01_Take.f (k + 1) y0 y1 y2)) ∧ (∀ y0 y1 y2 y3 y4 y5, LeO (echelonref01_Take.l0 k y0 y1 y2 y3 y4 y5) (echelonref01_Take.l0 (k + 1) y0 y1 y2 y3 y4 y5)) ∧ (∀ y0 y1 y2 y3 y4 y5, LeO (echelonref01_Take.j1 k y0 y1 y2 y3 y4 y5) (echelonref01_Take.j1 (k + 1) y0 y1 y2 y3 y4 y5)) ∧ (∀ y0 y1 y2 y3 y4 y5 y6, LeO (echelonref01_Take.j2 k y0 y1 y2 y3 y4 y5 y6) (echelonref01_Take.j2 (k + 1) y0 y1 y2 y3 y4 y5 y6)) ∧ (∀ y0 y1 y2 y3 y4 y5, LeO (echelonref01_Take.j3 k y0 y1 y2 y3 y4 y5) (echelonref01_Take.j3 (k + 1) y0 y1 y2 y3 y4 y5)) ∧ (∀ y0 y1 y2 y3 y4 y5 y6, LeO (echelonref01_Take.l1 k y0 y1 y2 y3 y4 y5 y6) (echelonref01_Take.l1 (k + 1) y0 y1 y2 y3 y4 y5 y6))
  | 0 => ⟨fun _ _ _ r h => by simp [echelonref01_Take.f] at h, fun _ _ _ _ _ _ r h => by simp [echelonref01_Take.l0] at h, fun _ _ _ _ _ _ r h => by simp [echelonref01_Take.j1] at h, fun _ _ _ _ _ _ _ r h => by simp [echelonref01_Take.j2] at h, fun _ _ _ _ _ _ r h => by simp [echelonref01_Take.j3] at h, fun _ _ _ _ _ _ _ r h => by simp [echelonref01_Take.l1] at h⟩
  | k + 1 => by
    obtain ⟨ih0, ih1, ih2, ih3, ih4, ih5⟩ := echelonref01_Take.mono_l k
    refine ⟨?_, ?_, ?_, ?_, ?_, ?_⟩
    · intro y0 y1 y2
      unfold echelonref01_Take.f
      repeat' first
      | (with_reducible exact ih0 _ _ _)
      | (with_reducible exact ih1 _ _ _ _ _ _)
      | (with_reducible exact ih2 _ _ _ _ _ _)
      | (with_reducible exact ih3 _ _ _ _ _ _ _)
      | (with_reducible exact ih4 _ _ _ _ _ _)
      | (with_reducible exact ih5 _ _ _ _ _ _ _)
      | (with_reducible exact echelonref01_Some.mono _ _)
      | (with_reducible exact echelonref01_number.mono _ _ _)
      | (with_reducible exact echelonref01_rows.mono _ _)
      | (with_reducible exact LeO.refl _)
      | (with_reducible exact LeO.none _)
      | (with_reducible refine LeO.ite ?_ ?_)
      | (with_reducible refine LeO.bind ?_ (fun _ => ?_))
      | exact ih0 _ _ _
      | exact ih1 _ _ _ _ _ _
      | exact ih2 _ _ _ _ _ _
      | exact ih3 _ _ _ _ _ _ _
      | exact ih4 _ _ _ _ _ _
      | exact ih5 _ _ _ _ _ _ _
      | exact echelonref01_Some.mono _ _
      | exact echelonref01_number.mono _ _ _
      | exact echelonref01_rows.mono _ _
      | exact LeO.none _
      | refine LeO.ite ?_ ?_
      | refine LeO.bind ?_ (fun _ => ?_)
    · intro y0 y1 y2 y3 y4 y5
      unfold echelonref01_Take.l0
      repeat' first
      | (with_reducible exact ih0 _ _ _)
      | (with_reducible exact ih1 _ _ _ _ _ _)
      | (with_reducible exact ih2 _ _ _ _ _ _)
      | (with_reducible exact ih3 _ _ _ _ _ _ _)
      | (with_reducible exact ih4 _ _ _ _ _ _)
      | (with_reducible exact ih5 _ _ _ _ _ _ _)
      | (with_reducible exact echelonref01_Some.mono _ _)
      | (with_reducible exact echelonref01_number.mono _ _ _)
      | (with_reducible exact echelonref01_rows.mono _ _)
      | (with_reducible exact LeO.refl _)
      | (with_reducible exact LeO.none _)
      | (with_reducible refine LeO.ite ?_ ?_)
      | (with_reducible refine LeO.bind ?_ (fun _ => ?_))
      | exact ih0 _ _ _
      | exact ih1 _ _ _ _ _ _
      | exact ih2 _ _ _ _ _ _
      | exact ih3 _ _ _ _ _ _ _
      | exact ih4 _ _ _ _ _ _
      | exact ih5 _ _ _ _ _ _ _
      | exact echelonref01_Some.mono _ _
      | exact echelonref01_number.mono _ _ _
      | exact echelonref01_rows.mono _ _
      | exact LeO.none _
      | refine LeO.ite ?_ ?_
      | refine LeO.bind ?_ (fun _ => ?_)
    · intro y0 y1 y2 y3 y4 y5
      unfold echelonref01_Take.j1
      repeat' first
      | (with_reducible exact ih0 _ _ _)
      | (with_reducible exact ih1 _ _ _ _ _ _)
      | (with_reducible exact ih2 _ _ _ _ _ _)
      | (with_reducible exact ih3 _ _ _ _ _ _ _)
      | (with_reducible exact ih4 _ _ _ _ _ _)
      | (with_reducible exact ih5 _ _ _ _ _ _ _)
      | (with_reducible exact echelonref01_Some.mono _ _)
      | (with_reducible exact echelonref01_number.mono _ _ _)
      | (with_reducible exact echelonref01_rows.mono _ _)
      | (with_reducible exact LeO.refl _)
      | (with_reducible exact LeO.none _)
      | (with_reducible refine LeO.ite ?_ ?_)
      | (with_reducible refine LeO.bind ?_ (fun _ => ?_))
      | exact ih0 _ _ _
      | exact ih1 _ _ _ _ _ _
      | exact ih2 _ _ _ _ _ _
      | exact ih3 _ _ _ _ _ _ _
      | exact ih4 _ _ _ _ _ _
      | exact ih5 _ _ _ _ _ _ _
      | exact echelonref01_Some.mono _ _
      | exact echelonref01_number.mono _ _ _
      | exact echelonref01_rows.mono _ _
      | exact LeO.none _
      | refine LeO.ite ?_ ?_
      | refine LeO.bind ?_ (fun _ => ?_)
    · intro y0 y1 y2 y3 y4 y5 y6
      unfold echelonref01_Take.j2
      repeat' first
      | (with_reducible exact ih0 _ _ _)
      | (with_reducible exact ih1 _ _ _ _ _ _)
      | (with_reducible exact ih2 _ _ _ _ _ _)
      | (with_reducible exact ih3 _ _ _ _ _ _ _)
      | (with_reducible exact ih4 _ _ _ _ _ _)
      | (with_reducible exact ih5 _ _ _ _ _ _ _)
      | (with_reducible exact echelonref01_Some.mono _ _)
      | (with_reducible exact echelonref01_number.mono _ _ _)
      | (with_reducible exact echelonref01_rows.mono _ _)
      | (with_reducible exact LeO.refl _)
      | (with_reducible exact LeO.none _)
      | (with_reducible refine LeO.ite ?_ ?_)
      | (with_reducible refine LeO.bind ?_ (fun _ => ?_))
      | exact ih0 _ _ _
      | exact ih1 _ _ _ _ _ _
      | exact ih2 _ _ _ _ _ _
      | exact ih3 _ _ _ _ _ _ _
      | exact ih4 _ _ _ _ _ _
      | exact ih5 _ _ _ _ _ _ _
      | exact echelonref01_Some.mono _ _
      | exact echelonref01_number.mono _ _ _
      | exact echelonref01_rows.mono _ _
      | exact LeO.none _
      | refine LeO.ite ?_ ?_
      | refine LeO.bind ?_ (fun _ => ?_)
    · intro y0 y1 y2 y3 y4 y5
      unfold echelonref01_Take.j3
      repeat' first
      | (with_reducible exact ih0 _ _ _)
      | (with_reducible exact ih1 _ _ _ _ _ _)
      | (with_reducible exact ih2 _ _ _ _ _ _)
      | (with_reducible exact ih3 _ _ _ _ _ _ _)
      | (with_reducible exact ih4 _ _ _ _ _ _)
      | (with_reducible exact ih5 _ _ _ _ _ _ _)
      | (with_reducible exact echelonref01_Some.mono _ _)
      | (with_reducible exact echelonref01_number.mono _ _ _)
      | (with_reducible exact echelonref01_rows.mono _ _)
      | (with_reducible exact LeO.refl _)
      | (with_reducible exact LeO.none _)
      | (with_reducible refine LeO.ite ?_ ?_)
      | (with_reducible refine LeO.bind ?_ (fun _ => ?_))
      | exact ih0 _ _ _
      | exact ih1 _ _ _ _ _ _
      | exact ih2 _ _ _ _ _ _
      | exact ih3 _ _ _ _ _ _ _
      | exact ih4 _ _ _ _ _ _
      | exact ih5 _ _ _ _ _ _ _
      | exact echelonref01_Some.mono _ _
      | exact echelonref01_number.mono _ _ _
      | exact echelonref01_rows.mono _ _
      | exact LeO.none _
      | refine LeO.ite ?_ ?_
      | refine LeO.bind ?_ (fun _ => ?_)
    · intro y0 y1 y2 y3 y4 y5 y6
      unfold echelonref01_Take.l1
      repeat' first
      | (with_reducible exact ih0 _ _ _)
      | (with_reducible exact ih1 _ _ _ _ _ _)
      | (with_reducible exact ih2 _ _ _ _ _ _)
      | (with_reducible exact ih3 _ _ _ _ _ _ _)
      | (with_reducible exact ih4 _ _ _ _ _ _)
      | (with_reducible exact ih5 _ _ _ _ _ _ _)
      | (with_reducible exact echelonref01_Some.mono _ _)
      | (with_reducible exact echelonref01_number.mono _ _ _)
      | (with_reducible exact echelonref01_rows.mono _ _)
      | (with_reducible exact LeO.refl _)
      | (with_reducible exact LeO.none _)
      | (with_reducible refine LeO.ite ?_ ?_)
      | (with_reducible refine LeO.bind ?_ (fun _ => ?_))
      | exact ih0 _ _ _
      | exact ih1 _ _ _ _ _ _
      | exact ih2 _ _ _ _ _ _
      | exact ih3 _ _ _ _ _ _ _
      | exact ih4 _ _ _ _ _ _
      | exact ih5 _ _ _ _ _ _ _
      | exact echelonref01_Some.mono _ _
      | exact echelonref01_number.mono _ _ _
      | exact echelonref01_rows.mono _ _
      | exact LeO.none _
      | refine LeO.ite ?_ ?_
      | refine LeO.bind ?_ (fun _ => ?_)
theorem echelonref01_Take.mono : ∀ a0 a1 a2 k, LeO (echelonref01_Take.f k a0 a1 a2) (echelonref01_Take.f (k + 1) a0 a1 a2) := by
  intro a0 a1 a2 k
  obtain ⟨ih0, ih1, ih2, ih3, ih4, ih5⟩ := echelonref01_Take.mono_l k
  exact ih0 a0 a1 a2
def echelonref01_Take.T26 : Bool × List (List Nat × List Nat) := (true, [([], []), ([0], [0]), ([], []), ([], []), ([], []), ([], []), ([5], [5]), ([4, 6], [4, 6]), ([2, 3, 7], [2, 3, 7]), ([1, 8], [1, 8]), ([0, 1, 2, 3, 4, 5, 6, 7, 8, 9], []), ([10, 9, 9, 0, 1, 2, 3, 4, 5, 6, 7, 8, 9], [9, 10])])
def echelonref01_Take.B26 : List Nat := [0, 1, 0, 0, 0, 0, 32, 112, 252, 511, 1023, 2047]
theorem echelonref01_Take.tab26 : rtab .any (opsOf Try.f61 26) = echelonref01_Take.T26 := by kernel_rfl
theorem echelonref01_Take.bits26 : waitsOk echelonref01_Take.T26.2 echelonref01_Take.B26 = true := by kernel_rfl
set_option maxHeartbeats 8000000 in
set_option maxRecDepth 100000 in
theorem echelonref01_Take.calls (k : Nat) : ∀ (a0 : ByteArray) (A1 : Option Addr) (c1 : Nat) (l1 : List Int) (a2 : Int) (r1 : Int) (r2 : List Int) (r3 : List (S105)) (r4 : Int) (r5 : Int) (w : World) (hr1 : Kd.C (Kd.int .u8) w A1 l1.length l1) (hc1 : l1.length ≤ c1) (h : echelonref01_Take.f k a0 l1 a2 = some (r1, r2, r3, r4, r5)),
    Calls Try.prog 61 #[.string a0, .slice A1 l1.length c1, .int .i64 a2] w fun e w' => ∃ v1_ v2_ : Value, e = .returned (.tuple #[.agg #[.int .u64 r1, v1_, v2_], .int .i64 r4, .int .i64 r5]) ∧ Kd.R (Kd.int .u8) 5 w' w.heap.size (fun _ => True) v1_ r2 ∧ Kd.R k105 105 w' w.heap.size (fun k_ => some k_ ≠ (v1_ : Value).ownBlock) v2_ r3 ∧ Below w.heap.size w w' := by
  induction k using Nat.strongRecOn with
  | _ k ih =>
  intro a0 A1 c1 l1 a2 r1 r2 r3 r4 r5 w hr1 hc1 h
  cases k with
  | zero => exact absurd h (by simp [echelonref01_Take.f])
  | succ k =>
  simp only [echelonref01_Take.f] at h
  have hu105 := Try.underlying105
  have HR1 := Aside0.mk hr1
  have HC1 := Aside0.mk hc1
  clear hr1 hc1
  have HB := Aside0.mk (Below.refl w.heap.size w)
  have H : (if 0 < (a0.size : Int) then (if (bt a0 0) = 91 then ((echelonref01_rows.f k a0).bind fun t124 => (echelonref01_Take.l0 k l1 a2 t124 0 0 ([] : List (S105)))) else ((echelonref01_number.f k l1 a2).bind fun bt141 => (if bt141.2.2 = 0 then (if (bt a0 0) = 110 then (some (bt141.1, ([] : List Int), ([] : List (S105)), bt141.2.1, 0)) else (if (bt a0 0) = 98 then (echelonref01_Take.j1 k a0 l1 bt141.2.1 bt141.1 true 0) else (if 1 ≤ (a0.size : Int) then ((echelonref01_Some.f k (a0.extract 1 a0.size)).bind fun t144 => (echelonref01_Take.j1 k a0 l1 bt141.2.1 bt141.1 t144 0)) else (none)))) else (some (0, ([] : List Int), ([] : List (S105)), a2, bt141.2.2))))) else (none)) = some (r1, r2, r3, r4, r5) := h
  clear h
  by_cases c4 : 0 < (a0.size : Int)
  · rw [if_pos c4] at H
    have c4b0 : decide (0 < (a0.size : Int)) = true := decide_eq_true c4
    have c4b1 : decide (0 < a0.size) = true := decide_eq_true (by omega)
    clear c4
    by_cases c6 : (bt a0 0) = 91
    · rw [if_pos c6] at H
      have c6b0 : ((bt a0 0) == 91) = true := beq_iff_eq.mpr c6
      have c6b1 : ((bt a0 0) != 91) = false := bne_eq_false_iff_eq.mpr c6
      clear c6
      replace H := Option.bind_eq_some_iff.mp H
      obtain ⟨t124, A70, H⟩ := H
      replace H : (echelonref01_Take.l0 k l1 a2 t124 0 0 ([] : List (S105))) = some (r1, r2, r3, r4, r5) := H
      have A7 := Aside0.mk A70
      clear A70
      have H' := Aside0.mk H
      clear H
      go_enter Try.func61, Try.ntmps61
      go_wp2_with (first | ((with_reducible refine gate_dst (N := 6) rfl ?_); (try (refine gate_guard (by rfl) ?_; dsimp only)); refine box_event ?hg (N := 6) ?hd (cs := #[.int .u64 0, .slice none 0 0, .slice none 0 0]) (t := 105) ?hr ?_; (case hd => rfl); (case hg => rfl); (case hr => first | (go_simp; done) | (go_simp; rfl)); intro gb122 hg w8 hbox hb; have n0_ := Aside0.mk (below_step (by repeat (first | (with_reducible first | exact HB.out | apply below_alloc | apply pw_below_drewN | apply below_drew1) | exact HB.out)) hb); have n1_ := Aside0.mk (hbox); have n2_ := Aside0.mk ((by rw [hg]; exact (below_size (by repeat (first | (with_reducible first | exact HB.out | apply below_alloc | apply pw_below_drewN | apply below_drew1) | exact HB.out))) : w.heap.size ≤ gb122)); have n3_ := Aside0.mk ((by rw [hg]; exact (below_size (by repeat (first | (with_reducible first | exact HB.out | apply below_alloc | apply pw_below_drewN | apply below_drew1) | exact HB.out))) : w.heap.size ≤ gb122)); clear HB; have HB := n0_; have BK122 := n1_; have GW122 := n2_; have GE122 := n3_; clear n0_ n1_ n2_ n3_; clear hb hbox hg) | ((with_reducible refine gate_dst (N := 9) rfl ?_); (try (refine gate_guard (by rfl) ?_; dsimp only)); refine box_event ?hg (N := 9) ?hd (cs := #[.int .u64 0, .slice none 0 0, .slice none 0 0]) (t := 105) ?hr ?_; (case hd => rfl); (case hg => rfl); (case hr => first | (go_simp; done) | (go_simp; rfl)); intro gb123 hg w9 hbox hb; have n0_ := Aside0.mk (blk_below (g := gb122) (o := .cells #[.int .u64 0, .slice none 0 0, .slice none 0 0] 105 (0, 0)) (by (with_reducible repeat (first | refine blk_drewN ?_ _ | refine blk_drew ?_ | refine blk_alloc ?_ _)); exact BK122.out) hb); have n1_ := Aside0.mk (below_step (by repeat (first | (with_reducible first | exact HB.out | apply below_alloc | apply pw_below_drewN | apply below_drew1 | refine below_set ?_ GE122.out) | exact HB.out)) hb); have n2_ := Aside0.mk (hbox); have n3_ := Aside0.mk ((by rw [hg]; exact (below_size (by repeat (first | (with_reducible first | exact HB.out | apply below_alloc | apply pw_below_drewN | apply below_drew1 | refine below_set ?_ GE122.out) | exact HB.out))) : w.heap.size ≤ gb123)); have n4_ := Aside0.mk ((by rw [hg]; exact (below_size (by repeat (first | (with_reducible first | exact HB.out | apply below_alloc | apply pw_below_drewN | apply below_drew1 | refine below_set ?_ GE122.out) | exact HB.out))) : w.heap.size ≤ gb123)); have n5_ := Aside0.mk ((by rw [hg]; exact Nat.ne_of_lt (blk_lt (g := gb122) (o := .cells #[.int .u64 0, .slice none 0 0, .slice none 0 0] 105 (0, 0)) (by (with_reducible repeat (first | refine blk_drewN ?_ _ | refine blk_drew ?_ | refine blk_alloc ?_ _)); exact BK122.out)) : gb122 ≠ gb123)); have n6_ := Aside0.mk ((by rw [hg]; exact Nat.ne_of_gt (blk_lt (g := gb122) (o := .cells #[.int .u64 0, .slice none 0 0, .slice none 0 0] 105 (0, 0)) (by (with_reducible repeat (first | refine blk_drewN ?_ _ | refine blk_drew ?_ | refine blk_alloc ?_ _)); exact BK122.out)) : gb123 ≠ gb122)); clear BK122; clear HB; have BK122 := n0_; have HB := n1_; have BK123 := n2_; have GW123 := n3_; have GE123 := n4_; have NB122_123 := n5_; have NB123_122 := n6_; clear n0_ n1_ n2_ n3_ n4_ n5_ n6_; clear hb hbox hg; have hnb10 := NB123_122.out; have hnc10 := NB122_123.out; have hcz11_0 : w9.cell? ⟨gb123, 0, none⟩ = some (.int .u64 0) := (blk_cell BK123.out 0).trans rfl; have hcz11_1 : w9.cell? ⟨gb123, 1, none⟩ = some (.slice none 0 0) := (blk_cell BK123.out 1).trans rfl; have hcz11_2 : w9.cell? ⟨gb123, 2, none⟩ = some (.slice none 0 0) := (blk_cell BK123.out 2).trans rfl; have hfz11_0 := blk_frozen BK123.out 0; have hfz11_1 := blk_frozen BK123.out 1; have hfz11_2 := blk_frozen BK123.out 2; have p5 : 0 ≤ (0 : Int) := (by omega); have q5 : 0 < a0.size := (by have : (0 : Int) < (a0.size : Int) := of_decide_eq_true (by first | (with_reducible assumption) | assumption); omega); have hx5 : ∀ h : 0 < a0.size, ((a0[0]'h).toNat : Int) = bt a0 0 := bt_at a0 0; clear p5; have qi5 : (0 < (a0.size : Int)) = True := eq_true (of_decide_eq_true (by first | (with_reducible assumption) | assumption)); replace q5 := eq_true q5) | ((with_reducible refine gate_callee (f := 82) rfl ?_); refine goesL_ (some 28) rfl rfl Try.func82 (by kernel_rfl) rfl #[.string a0] rfl (by (try simp only [List.map_toArray, List.map_cons, List.map_nil]); first | done | rfl | (simp only [List.length_drop, List.length_take]; rfl)) ?_; (with_reducible refine (echelonref01_rows.calls k a0 t124 _ A7.out).mono ?_); rintro e w12 ⟨v125, rfl, ho0, hb⟩; refine ⟨_, rfl, ?_⟩; have n0_ := Aside0.mk (Kd.R_lower ho0 (below_size (by repeat (first | (with_reducible first | exact HB.out | apply below_alloc | apply pw_below_drewN | apply below_drew1 | refine below_set ?_ GE122.out | refine below_set ?_ GE123.out) | exact HB.out)))); have n1_ := Aside0.mk (blk_below (g := gb122) (o := .cells #[.int .u64 0, .slice none 0 0, .slice none 0 0] 105 (0, 0)) (by (with_reducible repeat (first | refine blk_drewN ?_ _ | refine blk_drew ?_ | refine blk_alloc ?_ _)); refine blk_far ?_ NB122_123.out _; (with_reducible repeat (first | refine blk_drewN ?_ _ | refine blk_drew ?_ | refine blk_alloc ?_ _)); refine blk_far ?_ NB122_123.out _; (with_reducible repeat (first | refine blk_drewN ?_ _ | refine blk_drew ?_ | refine blk_alloc ?_ _)); refine blk_far ?_ NB122_123.out _; (with_reducible repeat (first | refine blk_drewN ?_ _ | refine blk_drew ?_ | refine blk_alloc ?_ _)); exact BK122.out) hb); have n2_ := Aside0.mk (blk_below (g := gb123) (o := .cells #[.int .u64 0, .slice none 0 0, .slice none 0 0] 105 (0, 0)) (by (with_reducible repeat (first | refine blk_drewN ?_ _ | refine blk_drew ?_ | refine blk_alloc ?_ _)); refine blk_put (cs := #[.int .u64 0, .slice none 0 0, .slice none 0 0]) ?_ 2 _ rfl; (with_reducible repeat (first | refine blk_drewN ?_ _ | refine blk_drew ?_ | refine blk_alloc ?_ _)); refine blk_put (cs := #[.int .u64 0, .slice none 0 0, .slice none 0 0]) ?_ 1 _ rfl; (with_reducible repeat (first | refine blk_drewN ?_ _ | refine blk_drew ?_ | refine blk_alloc ?_ _)); refine blk_put (cs := #[.int .u64 0, .slice none 0 0, .slice none 0 0]) ?_ 0 _ rfl; (with_reducible repeat (first | refine blk_drewN ?_ _ | refine blk_drew ?_ | refine blk_alloc ?_ _)); exact BK123.out) hb); have n3_ := Aside0.mk (below_step (by repeat (first | (with_reducible first | exact HB.out | apply below_alloc | apply pw_below_drewN | apply below_drew1 | refine below_set ?_ GE122.out | refine below_set ?_ GE123.out) | exact HB.out)) hb); clear BK122; clear BK123; clear HB; have HO126 := n0_; have BK122 := n1_; have BK123 := n2_; have HB := n3_; clear n0_ n1_ n2_ n3_; (try clear hb); (try clear hb2); (try clear hk); (try clear hi); (try clear ho0)))
      go_loopg [2, 11] k (fun kq v2 v11 w' => ∃ (x2_1 : Int) (x11_1 : Int) (x123000_1 : Int) (x124002_1 : List (S105)) (u124002 : Value), v2 = .int .i64 x2_1 ∧ v11 = .int .i64 x11_1 ∧ Aside0 (echelonref01_Take.l0 kq l1 x2_1 t124 x11_1 0 x124002_1 = some (r1, r2, r3, r4, r5)) ∧ Aside0 (kq ≤ k) ∧ Aside0 (Kd.R Kd.string 9 w' w.heap.size (fun _ => True) v125 t124) ∧ Aside0 (Kd.R k105 105 w' w.heap.size (fun k_ => k_ ≠ gb122 ∧ k_ ≠ gb123) u124002 x124002_1) ∧ Aside0 (w'.heap[gb122]? = some (.cells #[.int .u64 x123000_1, (.slice none 0 0), (.slice none 0 0)] 105 (0, 0))) ∧ Aside0 (w'.heap[gb123]? = some (.cells #[.int .u64 0, (.slice none 0 0), u124002] 105 (0, 0))) ∧ Aside0 (Below w.heap.size w w'))
      case atStart => exact ⟨(a2), (0), (0), (([] : List (S105))), (.slice none 0 0), (by first | rfl | (simp; done) | (simp [*]; done)), (by first | rfl | (simp; done) | (simp [*]; done)), H', ⟨Nat.le_refl _⟩, ⟨by (with_reducible repeat (first | apply Kd.R_alloc | apply Kd.R_drewN | apply Kd.R_drew)); exact HO126.out⟩, ⟨by first | exact Kd.R_nil _ _ _ _ _ | exact Kd.N_nil _ _ _ _ _ | exact Kd.V_nil _ _ _ _ _ | exact Kd.Q_nil _ _ _ _ _ | exact Kd.S_nil _ _ _ _ _⟩, ⟨by (with_reducible repeat (first | refine blk_drewN ?_ _ | refine blk_drew ?_ | refine blk_alloc ?_ _)); exact BK122.out⟩, ⟨by (with_reducible repeat (first | refine blk_drewN ?_ _ | refine blk_drew ?_ | refine blk_alloc ?_ _)); exact BK123.out⟩, ⟨by repeat (first | (with_reducible first | exact HB.out | apply below_alloc | apply pw_below_drewN | apply below_drew1 | refine below_set ?_ GE122.out | refine below_set ?_ GE123.out) | exact HB.out)⟩⟩
      case round =>
        clear H'
        try clear c1
        try clear p2
        try clear c4
        try clear c4b0
        try clear c4b1
        try clear p5
        try clear q5
        try clear hx5
        try clear qi5
        try clear c6
        try clear c6b0
        try clear c6b1
        try clear c8
        try clear c10
        try clear hcz11_0
        try clear hcz11_1
        try clear hcz11_2
        try clear hfz11_0
        try clear hfz11_1
        try clear hfz11_2
        try clear p5
        try clear q5
        obtain ⟨x2_1, x11_1, x123000_1, x124002_1, u124002, rfl, rfl, HA, HK1, HO_10, HO_124002, BK122, BK123, HB⟩ := hrel
        cases gk with
        | zero => exact absurd HA.out (by simp [echelonref01_Take.l0])
        | succ k1 =>
          have H := HA.out
          clear HA
          simp only [echelonref01_Take.l0] at H
          by_cases c13 : x11_1 < (t124.length : Int)
          · rw [if_pos c13] at H
            have c13b0 : decide (x11_1 < (t124.length : Int)) = true := decide_eq_true c13
            clear c13
            by_cases c14 : 0 ≤ x11_1
            · rw [if_pos c14] at H
              have c14b0 : decide (0 ≤ x11_1) = true := decide_eq_true c14
              clear c14
              replace H := Option.bind_eq_some_iff.mp H
              obtain ⟨⟨t128, t129, t132, t135, t136⟩, A150, H⟩ := H
              replace H : (if t136 = 0 then (if x124002_1.length < 2513169434916 then (echelonref01_Take.l0 k1 l1 t135 t124 (wrap64 (x11_1 + 1)) 0 (x124002_1 ++ [(⟨t128, t129, t132⟩ : S105)])) else (none)) else (some (0, ([] : List Int), ([] : List (S105)), x2_1, t136))) = some (r1, r2, r3, r4, r5) := H
              have A15 := Aside0.mk A150
              clear A150
              by_cases c16 : t136 = 0
              · rw [if_pos c16] at H
                have c16b0 : (t136 == 0) = true := beq_iff_eq.mpr c16
                have c16b1 : (t136 != 0) = false := bne_eq_false_iff_eq.mpr c16
                clear c16
                by_cases c17 : x124002_1.length < 2513169434916
                · rw [if_pos c17] at H
                  have LMc17 := Aside0.mk c17
                  clear c17
                  obtain ⟨y138, hy138⟩ : ∃ y_ : List (S105), y_ = (x124002_1 ++ [(⟨t128, t129, t132⟩ : S105)]) := ⟨_, rfl⟩
                  replace H : (echelonref01_Take.l0 k1 l1 t135 t124 (wrap64 (x11_1 + 1)) 0 y138) = some (r1, r2, r3, r4, r5) := by first | (rw [hy138]; with_reducible exact H) | (have H2_ := (Option.bind_some _ _).symm.trans H; rw [hy138]; with_reducible exact H2_) | (have H2_ := (Option.bind_some _ _).symm.trans H; with_reducible exact H2_) | with_reducible exact H | (rw [hy138]; exact H) | exact H
                  have Ny138 := Aside0.mk hy138
                  clear hy138
                  have H' := Aside0.mk H
                  clear H
                  obtain ⟨Ao18, co18, eo18⟩ := Kd.R_slice HO_10.out
                  subst eo18
                  have p127 : 0 ≤ (x11_1 : Int) := of_decide_eq_true (by first | (with_reducible assumption) | assumption)
                  have q127 : x11_1 < (t124.length : Int) := of_decide_eq_true (by first | (with_reducible assumption) | assumption)
                  obtain ⟨ad127, e127, hx127_0⟩ := Kd.at_string (Kd.R_reads' HO_10.out).2.2 x11_1 p127 q127
                  cases e127
                  replace p127 := eq_true p127
                  replace q127 := eq_true q127
                  go_wp2_with (first | ((with_reducible refine gate_callee (f := 61) rfl ?_); refine goesL_ (some 42) rfl rfl Try.func61 (by kernel_rfl) rfl #[.string (rdOf ByteArray.empty t124 x11_1), .slice A1 l1.length c1, .int .i64 x2_1] rfl (by (try simp only [List.map_toArray, List.map_cons, List.map_nil]); first | done | rfl | (simp only [List.length_drop, List.length_take]; rfl)) ?_; (with_reducible refine (ih k1 (by have := HK1.out; omega) (rdOf ByteArray.empty t124 x11_1) _ _ l1 x2_1 t128 t129 t132 t135 t136 _ ?side1 ?side2 A15.out).mono ?_); (case side1 => repeat (first | exact (Kd.C_below HR1.out HB.out) | (with_reducible refine Kd.C_alloc ?_ _) | (with_reducible refine Kd.C_drewN ?_ _) | (with_reducible refine Kd.C_drew ?_))); (case side2 => exact HC1.out); rintro e w19 ⟨v130, v133, rfl, ho0, ho1, hb⟩; refine ⟨_, rfl, ?_⟩; have n0_ := Aside0.mk (Kd.R_below (by (with_reducible repeat (first | apply Kd.R_alloc | apply Kd.R_drewN | apply Kd.R_drew)); exact HO_10.out) hb); have n1_ := Aside0.mk (Kd.R_mono (Kd.R_told (Kd.R_told (Kd.R_old (by (with_reducible repeat (first | apply Kd.R_alloc | apply Kd.R_drewN | apply Kd.R_drew)); exact HO_124002.out) hb) (Kd.R_base ho0)) (Kd.R_base ho1)) (fun _ h_ => h_.1)); have n2_ := Aside0.mk (Kd.R_lower ho0 (below_size (by repeat (first | (with_reducible first | exact HB.out | apply below_alloc | apply pw_below_drewN | apply below_drew1 | refine below_set ?_ GE122.out | refine below_set ?_ GE123.out) | exact HB.out)))); have n3_ := Aside0.mk (Kd.R_lower (Kd.R_newB (Kd.R_newB (Kd.R_new' ho1 (Kd.R_lt (by (with_reducible repeat (first | apply Kd.R_alloc | apply Kd.R_drewN | apply Kd.R_drew)); exact HO_124002.out))) (g := gb122) (o := .cells #[.int .u64 x123000_1, .slice none 0 0, .slice none 0 0] 105 (0, 0)) (by (with_reducible repeat (first | refine blk_drewN ?_ _ | refine blk_drew ?_ | refine blk_alloc ?_ _)); exact BK122.out)) (g := gb123) (o := .cells #[.int .u64 0, .slice none 0 0, u124002] 105 (0, 0)) (by (with_reducible repeat (first | refine blk_drewN ?_ _ | refine blk_drew ?_ | refine blk_alloc ?_ _)); exact BK123.out)) (below_size (by repeat (first | (with_reducible first | exact HB.out | apply below_alloc | apply pw_below_drewN | apply below_drew1 | refine below_set ?_ GE122.out | refine below_set ?_ GE123.out) | exact HB.out)))); have n4_ := Aside0.mk (blk_below (g := gb122) (o := .cells #[.int .u64 x123000_1, .slice none 0 0, .slice none 0 0] 105 (0, 0)) (by (with_reducible repeat (first | refine blk_drewN ?_ _ | refine blk_drew ?_ | refine blk_alloc ?_ _)); exact BK122.out) hb); have n5_ := Aside0.mk (blk_below (g := gb123) (o := .cells #[.int .u64 0, .slice none 0 0, u124002] 105 (0, 0)) (by (with_reducible repeat (first | refine blk_drewN ?_ _ | refine blk_drew ?_ | refine blk_alloc ?_ _)); exact BK123.out) hb); have n6_ := Aside0.mk (below_step (by repeat (first | (with_reducible first | exact HB.out | apply below_alloc | apply pw_below_drewN | apply below_drew1 | refine below_set ?_ GE122.out | refine below_set ?_ GE123.out) | exact HB.out)) hb); clear HO_10; clear HO_124002; clear BK122; clear BK123; clear HB; have HO_10 := n0_; have HO_124002 := n1_; have HO131 := n2_; have HO134 := n3_; have BK122 := n4_; have BK123 := n5_; have HB := n6_; clear n0_ n1_ n2_ n3_ n4_ n5_ n6_; (try clear hb); (try clear hb2); (try clear hk); (try clear hi); (try clear ho0); (try clear ho1)) | ((with_reducible refine gate_dst (N := 12) rfl ?_); (try (refine gate_guard (by rfl) ?_; dsimp only)); refine box_event ?hg (N := 12) ?hd (cs := #[.int .u64 0, .slice none 0 0, .slice none 0 0]) (t := 105) ?hr ?_; (case hd => rfl); (case hg => rfl); (case hr => first | (go_simp; done) | (go_simp; rfl)); intro gb137 hg w20 hbox hb; have n0_ := Aside0.mk (Kd.R_below (by (with_reducible repeat (first | apply Kd.R_alloc | apply Kd.R_drewN | apply Kd.R_drew)); exact HO_10.out) hb); have n1_ := Aside0.mk (Kd.R_below (Kd.R_elderB (by (with_reducible repeat (first | apply Kd.R_alloc | apply Kd.R_drewN | apply Kd.R_drew)); exact HO_124002.out) gb137 (Nat.le_of_eq hg.symm)) hb); have n2_ := Aside0.mk (Kd.R_below (by (with_reducible repeat (first | apply Kd.R_alloc | apply Kd.R_drewN | apply Kd.R_drew)); exact HO131.out) hb); have n3_ := Aside0.mk (Kd.R_below (Kd.R_elderB (by (with_reducible repeat (first | apply Kd.R_alloc | apply Kd.R_drewN | apply Kd.R_drew)); exact HO134.out) gb137 (Nat.le_of_eq hg.symm)) hb); have n4_ := Aside0.mk (blk_below (g := gb122) (o := .cells #[.int .u64 x123000_1, .slice none 0 0, .slice none 0 0] 105 (0, 0)) (by (with_reducible repeat (first | refine blk_drewN ?_ _ | refine blk_drew ?_ | refine blk_alloc ?_ _)); exact BK122.out) hb); have n5_ := Aside0.mk (blk_below (g := gb123) (o := .cells #[.int .u64 0, .slice none 0 0, u124002] 105 (0, 0)) (by (with_reducible repeat (first | refine blk_drewN ?_ _ | refine blk_drew ?_ | refine blk_alloc ?_ _)); exact BK123.out) hb); have n6_ := Aside0.mk (below_step (by repeat (first | (with_reducible first | exact HB.out | apply below_alloc | apply pw_below_drewN | apply below_drew1 | refine below_set ?_ GE122.out | refine below_set ?_ GE123.out) | exact HB.out)) hb); have n7_ := Aside0.mk (hbox); have n8_ := Aside0.mk ((by rw [hg]; exact (below_size (by repeat (first | (with_reducible first | exact HB.out | apply below_alloc | apply pw_below_drewN | apply below_drew1 | refine below_set ?_ GE122.out | refine below_set ?_ GE123.out) | exact HB.out))) : w.heap.size ≤ gb137)); have n9_ := Aside0.mk ((by rw [hg]; exact (below_size (by repeat (first | (with_reducible first | exact HB.out | apply below_alloc | apply pw_below_drewN | apply below_drew1 | refine below_set ?_ GE122.out | refine below_set ?_ GE123.out) | exact HB.out))) : w.heap.size ≤ gb137)); have n10_ := Aside0.mk ((by rw [hg]; exact Nat.ne_of_lt (blk_lt (g := gb122) (o := .cells #[.int .u64 x123000_1, .slice none 0 0, .slice none 0 0] 105 (0, 0)) (by (with_reducible repeat (first | refine blk_drewN ?_ _ | refine blk_drew ?_ | refine blk_alloc ?_ _)); exact BK122.out)) : gb122 ≠ gb137)); have n11_ := Aside0.mk ((by rw [hg]; exact Nat.ne_of_gt (blk_lt (g := gb122) (o := .cells #[.int .u64 x123000_1, .slice none 0 0, .slice none 0 0] 105 (0, 0)) (by (with_reducible repeat (first | refine blk_drewN ?_ _ | refine blk_drew ?_ | refine blk_alloc ?_ _)); exact BK122.out)) : gb137 ≠ gb122)); have n12_ := Aside0.mk ((by rw [hg]; exact Nat.ne_of_lt (blk_lt (g := gb123) (o := .cells #[.int .u64 0, .slice none 0 0, u124002] 105 (0, 0)) (by (with_reducible repeat (first | refine blk_drewN ?_ _ | refine blk_drew ?_ | refine blk_alloc ?_ _)); exact BK123.out)) : gb123 ≠ gb137)); have n13_ := Aside0.mk ((by rw [hg]; exact Nat.ne_of_gt (blk_lt (g := gb123) (o := .cells #[.int .u64 0, .slice none 0 0, u124002] 105 (0, 0)) (by (with_reducible repeat (first | refine blk_drewN ?_ _ | refine blk_drew ?_ | refine blk_alloc ?_ _)); exact BK123.out)) : gb137 ≠ gb123)); clear HO_10; clear HO_124002; clear HO131; clear HO134; clear BK122; clear BK123; clear HB; have HO_10 := n0_; have HO_124002 := n1_; have HO131 := n2_; have HO134 := n3_; have BK122 := n4_; have BK123 := n5_; have HB := n6_; have BK137 := n7_; have GW137 := n8_; have GE137 := n9_; have NB122_137 := n10_; have NB137_122 := n11_; have NB123_137 := n12_; have NB137_123 := n13_; clear n0_ n1_ n2_ n3_ n4_ n5_ n6_ n7_ n8_ n9_ n10_ n11_ n12_ n13_; clear hb hbox hg; have hnb21 := NB137_122.out; have hnc21 := NB122_137.out; have hnb22 := NB137_123.out; have hnc22 := NB123_137.out; have hcz23_0 : w20.cell? ⟨gb137, 0, none⟩ = some (.int .u64 0) := (blk_cell BK137.out 0).trans rfl; have hcz23_1 : w20.cell? ⟨gb137, 1, none⟩ = some (.slice none 0 0) := (blk_cell BK137.out 1).trans rfl; have hcz23_2 : w20.cell? ⟨gb137, 2, none⟩ = some (.slice none 0 0) := (blk_cell BK137.out 2).trans rfl; have hfz23_0 := blk_frozen BK137.out 0; have hfz23_1 := blk_frozen BK137.out 1; have hfz23_2 := blk_frozen BK137.out 2; obtain ⟨Ao24, co24, eo24⟩ := Kd.R_slice HO131.out; subst eo24; obtain ⟨Ao25, co25, eo25⟩ := Kd.R_slice HO134.out; subst eo25) | ((with_reducible refine gate_store (t := 105) (p := 12) rfl ?_); refine store_event (t := 105) (p := 12) (v := ?vo_w26) (w1 := (((w20.setCell ⟨gb137, 0, none⟩ (.int .u64 t128)).setCell ⟨gb137, 1, none⟩ (.slice Ao24 t129.length co24)).setCell ⟨gb137, 2, none⟩ (.slice Ao25 t132.length co25))) ?hg ?ho ?hn ?hr ?_; (case ho => rfl); (case hg => rfl); (case hn => rfl); (case hr => first | (go_simp; done) | (go_simp; rfl)); intro w26 hw; have n0_ : Aside0 (Kd.R Kd.string 9 w26 w.heap.size (fun _ => True) (.slice (some ad127) t124.length co18) t124) := ⟨(by rw [hw]; exact (by (with_reducible repeat (first | apply Kd.R_alloc | apply Kd.R_drewN | apply Kd.R_drew)); exact Kd.R_mono (Kd.R_far (p := ⟨gb137, 2, none⟩) (Kd.R_far (p := ⟨gb137, 1, none⟩) (Kd.R_far (p := ⟨gb137, 0, none⟩) (Kd.R_types HO_10.out BK137.out (by decide)) (fun _ hk => hk.2) (.int .u64 t128)) (fun _ hk => hk.2) (.slice Ao24 t129.length co24)) (fun _ hk => hk.2) (.slice Ao25 t132.length co25)) (fun _ hk => trivial)))⟩; have n1_ : Aside0 (Kd.R k105 105 w26 w.heap.size (fun k_ => some k_ ≠ (.slice Ao24 t129.length co24 : Value).ownBlock ∧ some k_ ≠ (.slice Ao25 t132.length co25 : Value).ownBlock ∧ k_ ≠ gb122 ∧ k_ ≠ gb123 ∧ k_ ≠ gb137) u124002 x124002_1) := ⟨(by rw [hw]; exact (by (with_reducible repeat (first | apply Kd.R_alloc | apply Kd.R_drewN | apply Kd.R_drew)); exact Kd.R_mono (Kd.R_far (p := ⟨gb137, 2, none⟩) (Kd.R_far (p := ⟨gb137, 1, none⟩) (Kd.R_far (p := ⟨gb137, 0, none⟩) (Kd.R_mono HO_124002.out (fun k_ hk => (⟨hk, hk.2⟩ : _ ∧ k_ ≠ gb137))) (fun _ hk => hk.2) (.int .u64 t128)) (fun _ hk => hk.2) (.slice Ao24 t129.length co24)) (fun _ hk => hk.2) (.slice Ao25 t132.length co25)) (fun _ hk => ⟨hk.1.1.1.2, ⟨hk.1.1.2, ⟨hk.1.1.1.1.1, ⟨hk.1.1.1.1.2, hk.1.2⟩⟩⟩⟩)))⟩; have n2_ : Aside0 (Kd.R (Kd.int .u8) 5 w26 w.heap.size (fun _ => True) (.slice Ao24 t129.length co24) t129) := ⟨(by rw [hw]; exact (by (with_reducible repeat (first | apply Kd.R_alloc | apply Kd.R_drewN | apply Kd.R_drew)); exact Kd.R_mono (Kd.R_far (p := ⟨gb137, 2, none⟩) (Kd.R_far (p := ⟨gb137, 1, none⟩) (Kd.R_far (p := ⟨gb137, 0, none⟩) (Kd.R_types HO131.out BK137.out (by decide)) (fun _ hk => hk.2) (.int .u64 t128)) (fun _ hk => hk.2) (.slice Ao24 t129.length co24)) (fun _ hk => hk.2) (.slice Ao25 t132.length co25)) (fun _ hk => trivial)))⟩; have n3_ : Aside0 (Kd.R k105 105 w26 w.heap.size (fun k_ => some k_ ≠ (u124002 : Value).ownBlock ∧ some k_ ≠ (.slice Ao24 t129.length co24 : Value).ownBlock ∧ k_ ≠ gb122 ∧ k_ ≠ gb123 ∧ k_ ≠ gb137) (.slice Ao25 t132.length co25) t132) := ⟨(by rw [hw]; exact (by (with_reducible repeat (first | apply Kd.R_alloc | apply Kd.R_drewN | apply Kd.R_drew)); exact Kd.R_mono (Kd.R_far (p := ⟨gb137, 2, none⟩) (Kd.R_far (p := ⟨gb137, 1, none⟩) (Kd.R_far (p := ⟨gb137, 0, none⟩) (Kd.R_mono HO134.out (fun k_ hk => (⟨hk, hk.2⟩ : _ ∧ k_ ≠ gb137))) (fun _ hk => hk.2) (.int .u64 t128)) (fun _ hk => hk.2) (.slice Ao24 t129.length co24)) (fun _ hk => hk.2) (.slice Ao25 t132.length co25)) (fun _ hk => ⟨hk.1.1.1.1.2, ⟨hk.1.1.1.1.1, ⟨hk.1.1.1.2, ⟨hk.1.1.2, hk.1.2⟩⟩⟩⟩)))⟩; have n4_ : Aside0 (w26.heap[gb122]? = some (.cells #[.int .u64 x123000_1, .slice none 0 0, .slice none 0 0] 105 (0, 0))) := ⟨(by rw [hw]; exact (by (with_reducible repeat (first | refine blk_drewN ?_ _ | refine blk_drew ?_ | refine blk_alloc ?_ _)); refine blk_far ?_ NB122_137.out _; (with_reducible repeat (first | refine blk_drewN ?_ _ | refine blk_drew ?_ | refine blk_alloc ?_ _)); refine blk_far ?_ NB122_137.out _; (with_reducible repeat (first | refine blk_drewN ?_ _ | refine blk_drew ?_ | refine blk_alloc ?_ _)); refine blk_far ?_ NB122_137.out _; (with_reducible repeat (first | refine blk_drewN ?_ _ | refine blk_drew ?_ | refine blk_alloc ?_ _)); exact BK122.out))⟩; have n5_ : Aside0 (w26.heap[gb123]? = some (.cells #[.int .u64 0, .slice none 0 0, u124002] 105 (0, 0))) := ⟨(by rw [hw]; exact (by (with_reducible repeat (first | refine blk_drewN ?_ _ | refine blk_drew ?_ | refine blk_alloc ?_ _)); refine blk_far ?_ NB123_137.out _; (with_reducible repeat (first | refine blk_drewN ?_ _ | refine blk_drew ?_ | refine blk_alloc ?_ _)); refine blk_far ?_ NB123_137.out _; (with_reducible repeat (first | refine blk_drewN ?_ _ | refine blk_drew ?_ | refine blk_alloc ?_ _)); refine blk_far ?_ NB123_137.out _; (with_reducible repeat (first | refine blk_drewN ?_ _ | refine blk_drew ?_ | refine blk_alloc ?_ _)); exact BK123.out))⟩; have n6_ : Aside0 (w26.heap[gb137]? = some (.cells #[.int .u64 t128, .slice Ao24 t129.length co24, .slice Ao25 t132.length co25] 105 (0, 0))) := ⟨(by rw [hw]; exact (by (with_reducible repeat (first | refine blk_drewN ?_ _ | refine blk_drew ?_ | refine blk_alloc ?_ _)); refine blk_put (cs := #[.int .u64 t128, .slice Ao24 t129.length co24, .slice none 0 0]) ?_ 2 _ rfl; (with_reducible repeat (first | refine blk_drewN ?_ _ | refine blk_drew ?_ | refine blk_alloc ?_ _)); refine blk_put (cs := #[.int .u64 t128, .slice none 0 0, .slice none 0 0]) ?_ 1 _ rfl; (with_reducible repeat (first | refine blk_drewN ?_ _ | refine blk_drew ?_ | refine blk_alloc ?_ _)); refine blk_put (cs := #[.int .u64 0, .slice none 0 0, .slice none 0 0]) ?_ 0 _ rfl; (with_reducible repeat (first | refine blk_drewN ?_ _ | refine blk_drew ?_ | refine blk_alloc ?_ _)); exact BK137.out))⟩; have n7_ : Aside0 (Below w.heap.size w w26) := ⟨(by rw [hw]; exact (by repeat (first | (with_reducible first | exact HB.out | apply below_alloc | apply pw_below_drewN | apply below_drew1 | refine below_set ?_ GE122.out | refine below_set ?_ GE123.out | refine below_set ?_ GE137.out) | exact HB.out)))⟩; clear hw; clear HO_10; clear HO_124002; clear HO131; clear HO134; clear BK122; clear BK123; clear BK137; clear HB; have HO_10 := n0_; have HO_124002 := n1_; have HO131 := n2_; have HO134 := n3_; have BK122 := n4_; have BK123 := n5_; have BK137 := n6_; have HB := n7_; clear n0_ n1_ n2_ n3_ n4_ n5_ n6_ n7_; have hnb27 := NB123_122.out; have hnc27 := NB122_123.out; have hcz28_0 : w26.cell? ⟨gb123, 0, none⟩ = some (.int .u64 0) := (blk_cell BK123.out 0).trans rfl; have hcz28_1 : w26.cell? ⟨gb123, 1, none⟩ = some (.slice none 0 0) := (blk_cell BK123.out 1).trans rfl; have hcz28_2 : w26.cell? ⟨gb123, 2, none⟩ = some (u124002) := (blk_cell BK123.out 2).trans rfl; have hfz28_0 := blk_frozen BK123.out 0; have hfz28_1 := blk_frozen BK123.out 1; have hfz28_2 := blk_frozen BK123.out 2; have hcz29_0 : w26.cell? ⟨gb137, 0, none⟩ = some (.int .u64 t128) := (blk_cell BK137.out 0).trans rfl; have hcz29_1 : w26.cell? ⟨gb137, 1, none⟩ = some (.slice Ao24 t129.length co24) := (blk_cell BK137.out 1).trans rfl; have hcz29_2 : w26.cell? ⟨gb137, 2, none⟩ = some (.slice Ao25 t132.length co25) := (blk_cell BK137.out 2).trans rfl; have hfz29_0 := blk_frozen BK137.out 0; have hfz29_1 := blk_frozen BK137.out 1; have hfz29_2 := blk_frozen BK137.out 2) | ((with_reducible refine gate_builtin (b := .append) (xs := #[.tmp 52, .tmp 54]) rfl ?_); (try (refine gate_guard (by rfl) ?_; dsimp only)); at_builtin; refine Kd.R_append k105 (w0 := w) w.heap.size rfl (.tmp 52) (.tmp 54) 103 105 (.agg #[(.int .u64 0), (.slice none 0 0), (.slice none 0 0)]) 56 rfl Try.underlying103 info105 rfl (by decide) (by omega) u124002 x124002_1 (⟨t128, t129, t132⟩ : S105) [.int .u64 t128, .slice Ao24 t129.length co24, .slice Ao25 t132.length co25] (fun k_ => k_ ≠ gb122 ∧ k_ ≠ gb123 ∧ k_ ≠ gb137) (fun k_ => ((fun k_ => k_ ≠ gb122 ∧ k_ ≠ gb123 ∧ k_ ≠ gb137)) k_ ∧ some k_ ≠ (u124002 : Value).ownBlock) rfl rfl ?aP (fun _ hk => hk) ?aF ?aO ?aB ?aS ?aL ?_; (case aP => exact k105_mkM _ _ _ (⟨t128, t129, t132⟩ : S105) (Kd.R_mono (Kd.R_types (Kd.R_types (Kd.R_types (Kd.R_apart' (HO131.out) (Kd.R_typed HO_124002.out) (by decide)) BK122.out (by decide)) BK123.out (by decide)) BK137.out (by decide)) (fun k_ hk => ⟨⟨hk.1.1.2, ⟨hk.1.2, hk.2⟩⟩, hk.1.1.1.2⟩)) (Kd.R_mono (HO134.out) (fun k_ hk => ⟨⟨hk.2.2.1, ⟨hk.2.2.2.1, hk.2.2.2.2⟩⟩, hk.1⟩))); (case aB => exact (by repeat (first | (with_reducible first | exact HB.out | apply below_alloc | apply pw_below_drewN | apply below_drew1 | refine below_set ?_ GE122.out | refine below_set ?_ GE123.out | refine below_set ?_ GE137.out) | exact HB.out))); (case aF => exact (fun k_ hk => ⟨Kd.freshB (g := gb122) (o := .cells #[.int .u64 x123000_1, .slice none 0 0, .slice none 0 0] 105 (0, 0)) (by (with_reducible repeat (first | refine blk_drewN ?_ _ | refine blk_drew ?_ | refine blk_alloc ?_ _)); exact BK122.out) k_ hk, Kd.freshB (g := gb123) (o := .cells #[.int .u64 0, .slice none 0 0, u124002] 105 (0, 0)) (by (with_reducible repeat (first | refine blk_drewN ?_ _ | refine blk_drew ?_ | refine blk_alloc ?_ _)); exact BK123.out) k_ hk, Kd.freshB (g := gb137) (o := .cells #[.int .u64 t128, .slice Ao24 t129.length co24, .slice Ao25 t132.length co25] 105 (0, 0)) (by (with_reducible repeat (first | refine blk_drewN ?_ _ | refine blk_drew ?_ | refine blk_alloc ?_ _)); exact BK137.out) k_ hk⟩)); (case aO => exact (by (with_reducible repeat (first | apply Kd.R_alloc | apply Kd.R_drewN | apply Kd.R_drew)); exact Kd.R_mono HO_124002.out (fun _ hk => ⟨hk.2.2.1, ⟨hk.2.2.2.1, hk.2.2.2.2⟩⟩))); (case aS => exact (below_size (by repeat (first | (with_reducible first | exact HB.out | apply below_alloc | apply pw_below_drewN | apply below_drew1 | refine below_set ?_ GE122.out | refine below_set ?_ GE123.out | refine below_set ?_ GE137.out) | exact HB.out)))); (case aL => have := LMc17.out; omega); intro v139 w30 ho hb hg hat; rw [← Ny138.out] at ho; have n0_ := Aside0.mk (Kd.R_over' (by (with_reducible repeat (first | apply Kd.R_alloc | apply Kd.R_drewN | apply Kd.R_drew)); exact HO_10.out) (Kd.R_typed (by (with_reducible repeat (first | apply Kd.R_alloc | apply Kd.R_drewN | apply Kd.R_drew)); exact HO_124002.out)) (by decide) hg); have n1_ := Aside0.mk (blk_grown (g := gb122) (o := .cells #[.int .u64 x123000_1, .slice none 0 0, .slice none 0 0] 105 (0, 0)) (by (with_reducible repeat (first | refine blk_drewN ?_ _ | refine blk_drew ?_ | refine blk_alloc ?_ _)); exact BK122.out) hg (Kd.R_away HO_124002.out (fun _ hk => hk.2.2.1))); have n2_ := Aside0.mk (blk_grown (g := gb123) (o := .cells #[.int .u64 0, .slice none 0 0, u124002] 105 (0, 0)) (by (with_reducible repeat (first | refine blk_drewN ?_ _ | refine blk_drew ?_ | refine blk_alloc ?_ _)); exact BK123.out) hg (Kd.R_away HO_124002.out (fun _ hk => hk.2.2.2.1))); have n3_ := Aside0.mk (blk_grown (g := gb137) (o := .cells #[.int .u64 t128, .slice Ao24 t129.length co24, .slice Ao25 t132.length co25] 105 (0, 0)) (by (with_reducible repeat (first | refine blk_drewN ?_ _ | refine blk_drew ?_ | refine blk_alloc ?_ _)); exact BK137.out) hg (Kd.R_away HO_124002.out (fun _ hk => hk.2.2.2.2))); have n4_ := Aside0.mk (hb); have n5_ := Aside0.mk (ho); clear HO_10; clear BK122; clear BK123; clear BK137; clear HB; clear HO_124002; clear HO131; clear HO134; have HO_10 := n0_; have BK122 := n1_; have BK123 := n2_; have BK137 := n3_; have HB := n4_; have HO140 := n5_; clear n0_ n1_ n2_ n3_ n4_ n5_; clear ho hb hg hat; obtain ⟨Ao31, co31, eo31⟩ := Kd.R_slice HO140.out; subst eo31; have hcz32_0 : w30.cell? ⟨gb123, 0, none⟩ = some (.int .u64 0) := (blk_cell BK123.out 0).trans rfl; have hcz32_1 : w30.cell? ⟨gb123, 1, none⟩ = some (.slice none 0 0) := (blk_cell BK123.out 1).trans rfl; have hcz32_2 : w30.cell? ⟨gb123, 2, none⟩ = some (u124002) := (blk_cell BK123.out 2).trans rfl; have hfz32_0 := blk_frozen BK123.out 0; have hfz32_1 := blk_frozen BK123.out 1; have hfz32_2 := blk_frozen BK123.out 2))
                  go_roundg k1
                  case measure => have := HK1.out; omega
                  case rel => exact ⟨(t135), (wrap64 (x11_1 + 1)), (x123000_1), (y138), (.slice Ao31 y138.length co31), (by first | rfl | (simp; done) | (simp [*]; done)), (by first | rfl | (simp; done) | (simp [*]; done)), H', ⟨by have := HK1.out; omega⟩, ⟨by (with_reducible repeat (first | apply Kd.R_alloc | apply Kd.R_drewN | apply Kd.R_drew)); exact Kd.R_mono (Kd.R_far (p := ⟨gb123, 2, none⟩) (Kd.R_types HO_10.out BK123.out (by decide)) (fun _ hk => hk.2) (.slice Ao31 y138.length co31)) (fun _ hk => trivial)⟩, ⟨by (with_reducible repeat (first | apply Kd.R_alloc | apply Kd.R_drewN | apply Kd.R_drew)); exact Kd.R_mono (Kd.R_far (p := ⟨gb123, 2, none⟩) (Kd.R_mono HO140.out (fun k_ hk => (⟨hk, hk.2.1⟩ : _ ∧ k_ ≠ gb123))) (fun _ hk => hk.2) (.slice Ao31 y138.length co31)) (fun _ hk => ⟨hk.1.1, hk.1.2.1⟩)⟩, ⟨by (with_reducible repeat (first | refine blk_drewN ?_ _ | refine blk_drew ?_ | refine blk_alloc ?_ _)); refine blk_far ?_ NB122_123.out _; (with_reducible repeat (first | refine blk_drewN ?_ _ | refine blk_drew ?_ | refine blk_alloc ?_ _)); exact BK122.out⟩, ⟨by (with_reducible repeat (first | refine blk_drewN ?_ _ | refine blk_drew ?_ | refine blk_alloc ?_ _)); refine blk_put (cs := #[.int .u64 0, .slice none 0 0, u124002]) ?_ 2 _ rfl; (with_reducible repeat (first | refine blk_drewN ?_ _ | refine blk_drew ?_ | refine blk_alloc ?_ _)); exact BK123.out⟩, ⟨by repeat (first | (with_reducible first | exact HB.out | apply below_alloc | apply pw_below_drewN | apply below_drew1 | refine below_set ?_ GE122.out | refine below_set ?_ GE123.out | refine below_set ?_ GE137.out) | exact HB.out)⟩⟩
                · rw [if_neg c17] at H
                  exact absurd H (by simp)
              · rw [if_neg c16] at H
                have c16b0 : (t136 == 0) = false := beq_eq_false_iff_ne.mpr c16
                have c16b1 : (t136 != 0) = true := bne_iff_ne.mpr c16
                simp only [Option.some.injEq, Prod.mk.injEq] at H
                obtain ⟨rfl, rfl, rfl, rfl, rfl⟩ := H
                obtain ⟨Ao33, co33, eo33⟩ := Kd.R_slice HO_10.out
                subst eo33
                have p127 : 0 ≤ (x11_1 : Int) := of_decide_eq_true (by first | (with_reducible assumption) | assumption)
                have q127 : x11_1 < (t124.length : Int) := of_decide_eq_true (by first | (with_reducible assumption) | assumption)
                obtain ⟨ad127, e127, hx127_0⟩ := Kd.at_string (Kd.R_reads' HO_10.out).2.2 x11_1 p127 q127
                cases e127
                replace p127 := eq_true p127
                replace q127 := eq_true q127
                go_wp2_with (first | ((with_reducible refine gate_callee (f := 61) rfl ?_); refine goesL_ (some 42) rfl rfl Try.func61 (by kernel_rfl) rfl #[.string (rdOf ByteArray.empty t124 x11_1), .slice A1 l1.length c1, .int .i64 x2_1] rfl (by (try simp only [List.map_toArray, List.map_cons, List.map_nil]); first | done | rfl | (simp only [List.length_drop, List.length_take]; rfl)) ?_; (with_reducible refine (ih k1 (by have := HK1.out; omega) (rdOf ByteArray.empty t124 x11_1) _ _ l1 x2_1 t128 t129 t132 t135 t136 _ ?side1 ?side2 A15.out).mono ?_); (case side1 => repeat (first | exact (Kd.C_below HR1.out HB.out) | (with_reducible refine Kd.C_alloc ?_ _) | (with_reducible refine Kd.C_drewN ?_ _) | (with_reducible refine Kd.C_drew ?_))); (case side2 => exact HC1.out); rintro e w34 ⟨v130, v133, rfl, ho0, ho1, hb⟩; refine ⟨_, rfl, ?_⟩; have n0_ := Aside0.mk (Kd.R_below (by (with_reducible repeat (first | apply Kd.R_alloc | apply Kd.R_drewN | apply Kd.R_drew)); exact HO_10.out) hb); have n1_ := Aside0.mk (Kd.R_mono (Kd.R_told (Kd.R_told (Kd.R_old (by (with_reducible repeat (first | apply Kd.R_alloc | apply Kd.R_drewN | apply Kd.R_drew)); exact HO_124002.out) hb) (Kd.R_base ho0)) (Kd.R_base ho1)) (fun _ h_ => h_.1)); have n2_ := Aside0.mk (Kd.R_lower ho0 (below_size (by repeat (first | (with_reducible first | exact HB.out | apply below_alloc | apply pw_below_drewN | apply below_drew1 | refine below_set ?_ GE122.out | refine below_set ?_ GE123.out) | exact HB.out)))); have n3_ := Aside0.mk (Kd.R_lower (Kd.R_newB (Kd.R_newB (Kd.R_new' ho1 (Kd.R_lt (by (with_reducible repeat (first | apply Kd.R_alloc | apply Kd.R_drewN | apply Kd.R_drew)); exact HO_124002.out))) (g := gb122) (o := .cells #[.int .u64 x123000_1, .slice none 0 0, .slice none 0 0] 105 (0, 0)) (by (with_reducible repeat (first | refine blk_drewN ?_ _ | refine blk_drew ?_ | refine blk_alloc ?_ _)); exact BK122.out)) (g := gb123) (o := .cells #[.int .u64 0, .slice none 0 0, u124002] 105 (0, 0)) (by (with_reducible repeat (first | refine blk_drewN ?_ _ | refine blk_drew ?_ | refine blk_alloc ?_ _)); exact BK123.out)) (below_size (by repeat (first | (with_reducible first | exact HB.out | apply below_alloc | apply pw_below_drewN | apply below_drew1 | refine below_set ?_ GE122.out | refine below_set ?_ GE123.out) | exact HB.out)))); have n4_ := Aside0.mk (blk_below (g := gb122) (o := .cells #[.int .u64 x123000_1, .slice none 0 0, .slice none 0 0] 105 (0, 0)) (by (with_reducible repeat (first | refine blk_drewN ?_ _ | refine blk_drew ?_ | refine blk_alloc ?_ _)); exact BK122.out) hb); have n5_ := Aside0.mk (blk_below (g := gb123) (o := .cells #[.int .u64 0, .slice none 0 0, u124002] 105 (0, 0)) (by (with_reducible repeat (first | refine blk_drewN ?_ _ | refine blk_drew ?_ | refine blk_alloc ?_ _)); exact BK123.out) hb); have n6_ := Aside0.mk (below_step (by repeat (first | (with_reducible first | exact HB.out | apply below_alloc | apply pw_below_drewN | apply below_drew1 | refine below_set ?_ GE122.out | refine below_set ?_ GE123.out) | exact HB.out)) hb); clear HO_10; clear HO_124002; clear BK122; clear BK123; clear HB; have HO_10 := n0_; have HO_124002 := n1_; have HO131 := n2_; have HO134 := n3_; have BK122 := n4_; have BK123 := n5_; have HB := n6_; clear n0_ n1_ n2_ n3_ n4_ n5_ n6_; (try clear hb); (try clear hb2); (try clear hk); (try clear hi); (try clear ho0); (try clear ho1)) | ((with_reducible refine gate_dst (N := 12) rfl ?_); (try (refine gate_guard (by rfl) ?_; dsimp only)); refine box_event ?hg (N := 12) ?hd (cs := #[.int .u64 0, .slice none 0 0, .slice none 0 0]) (t := 105) ?hr ?_; (case hd => rfl); (case hg => rfl); (case hr => first | (go_simp; done) | (go_simp; rfl)); intro gb137 hg w35 hbox hb; have n0_ := Aside0.mk (Kd.R_below (by (with_reducible repeat (first | apply Kd.R_alloc | apply Kd.R_drewN | apply Kd.R_drew)); exact HO_10.out) hb); have n1_ := Aside0.mk (Kd.R_below (Kd.R_elderB (by (with_reducible repeat (first | apply Kd.R_alloc | apply Kd.R_drewN | apply Kd.R_drew)); exact HO_124002.out) gb137 (Nat.le_of_eq hg.symm)) hb); have n2_ := Aside0.mk (Kd.R_below (by (with_reducible repeat (first | apply Kd.R_alloc | apply Kd.R_drewN | apply Kd.R_drew)); exact HO131.out) hb); have n3_ := Aside0.mk (Kd.R_below (Kd.R_elderB (by (with_reducible repeat (first | apply Kd.R_alloc | apply Kd.R_drewN | apply Kd.R_drew)); exact HO134.out) gb137 (Nat.le_of_eq hg.symm)) hb); have n4_ := Aside0.mk (blk_below (g := gb122) (o := .cells #[.int .u64 x123000_1, .slice none 0 0, .slice none 0 0] 105 (0, 0)) (by (with_reducible repeat (first | refine blk_drewN ?_ _ | refine blk_drew ?_ | refine blk_alloc ?_ _)); exact BK122.out) hb); have n5_ := Aside0.mk (blk_below (g := gb123) (o := .cells #[.int .u64 0, .slice none 0 0, u124002] 105 (0, 0)) (by (with_reducible repeat (first | refine blk_drewN ?_ _ | refine blk_drew ?_ | refine blk_alloc ?_ _)); exact BK123.out) hb); have n6_ := Aside0.mk (below_step (by repeat (first | (with_reducible first | exact HB.out | apply below_alloc | apply pw_below_drewN | apply below_drew1 | refine below_set ?_ GE122.out | refine below_set ?_ GE123.out) | exact HB.out)) hb); have n7_ := Aside0.mk (hbox); have n8_ := Aside0.mk ((by rw [hg]; exact (below_size (by repeat (first | (with_reducible first | exact HB.out | apply below_alloc | apply pw_below_drewN | apply below_drew1 | refine below_set ?_ GE122.out | refine below_set ?_ GE123.out) | exact HB.out))) : w.heap.size ≤ gb137)); have n9_ := Aside0.mk ((by rw [hg]; exact (below_size (by repeat (first | (with_reducible first | exact HB.out | apply below_alloc | apply pw_below_drewN | apply below_drew1 | refine below_set ?_ GE122.out | refine below_set ?_ GE123.out) | exact HB.out))) : w.heap.size ≤ gb137)); have n10_ := Aside0.mk ((by rw [hg]; exact Nat.ne_of_lt (blk_lt (g := gb122) (o := .cells #[.int .u64 x123000_1, .slice none 0 0, .slice none 0 0] 105 (0, 0)) (by (with_reducible repeat (first | refine blk_drewN ?_ _ | refine blk_drew ?_ | refine blk_alloc ?_ _)); exact BK122.out)) : gb122 ≠ gb137)); have n11_ := Aside0.mk ((by rw [hg]; exact Nat.ne_of_gt (blk_lt (g := gb122) (o := .cells #[.int .u64 x123000_1, .slice none 0 0, .slice none 0 0] 105 (0, 0)) (by (with_reducible repeat (first | refine blk_drewN ?_ _ | refine blk_drew ?_ | refine blk_alloc ?_ _)); exact BK122.out)) : gb137 ≠ gb122)); have n12_ := Aside0.mk ((by rw [hg]; exact Nat.ne_of_lt (blk_lt (g := gb123) (o := .cells #[.int .u64 0, .slice none 0 0, u124002] 105 (0, 0)) (by (with_reducible repeat (first | refine blk_drewN ?_ _ | refine blk_drew ?_ | refine blk_alloc ?_ _)); exact BK123.out)) : gb123 ≠ gb137)); have n13_ := Aside0.mk ((by rw [hg]; exact Nat.ne_of_gt (blk_lt (g := gb123) (o := .cells #[.int .u64 0, .slice none 0 0, u124002] 105 (0, 0)) (by (with_reducible repeat (first | refine blk_drewN ?_ _ | refine blk_drew ?_ | refine blk_alloc ?_ _)); exact BK123.out)) : gb137 ≠ gb123)); clear HO_10; clear HO_124002; clear HO131; clear HO134; clear BK122; clear BK123; clear HB; have HO_10 := n0_; have HO_124002 := n1_; have HO131 := n2_; have HO134 := n3_; have BK122 := n4_; have BK123 := n5_; have HB := n6_; have BK137 := n7_; have GW137 := n8_; have GE137 := n9_; have NB122_137 := n10_; have NB137_122 := n11_; have NB123_137 := n12_; have NB137_123 := n13_; clear n0_ n1_ n2_ n3_ n4_ n5_ n6_ n7_ n8_ n9_ n10_ n11_ n12_ n13_; clear hb hbox hg; have hnb36 := NB137_122.out; have hnc36 := NB122_137.out; have hnb37 := NB137_123.out; have hnc37 := NB123_137.out; have hcz38_0 : w35.cell? ⟨gb137, 0, none⟩ = some (.int .u64 0) := (blk_cell BK137.out 0).trans rfl; have hcz38_1 : w35.cell? ⟨gb137, 1, none⟩ = some (.slice none 0 0) := (blk_cell BK137.out 1).trans rfl; have hcz38_2 : w35.cell? ⟨gb137, 2, none⟩ = some (.slice none 0 0) := (blk_cell BK137.out 2).trans rfl; have hfz38_0 := blk_frozen BK137.out 0; have hfz38_1 := blk_frozen BK137.out 1; have hfz38_2 := blk_frozen BK137.out 2; obtain ⟨Ao39, co39, eo39⟩ := Kd.R_slice HO131.out; subst eo39; obtain ⟨Ao40, co40, eo40⟩ := Kd.R_slice HO134.out; subst eo40; have hnb41 := NB122_123.out; have hnc41 := NB123_122.out; have hcz42_0 : w35.cell? ⟨gb122, 0, none⟩ = some (.int .u64 x123000_1) := (blk_cell BK122.out 0).trans rfl; have hcz42_1 : w35.cell? ⟨gb122, 1, none⟩ = some (.slice none 0 0) := (blk_cell BK122.out 1).trans rfl; have hcz42_2 : w35.cell? ⟨gb122, 2, none⟩ = some (.slice none 0 0) := (blk_cell BK122.out 2).trans rfl; have hfz42_0 := blk_frozen BK122.out 0; have hfz42_1 := blk_frozen BK122.out 1; have hfz42_2 := blk_frozen BK122.out 2))
                refine bodyPost_ret (results_ctt rfl _ _ gb122 105 #[.int .u64 0, .slice none 0 0, .slice none 0 0] (0, 0) _ rfl (by (with_reducible repeat (first | refine blk_drewN ?_ _ | refine blk_drew ?_ | refine blk_alloc ?_ _)); refine blk_put (cs := #[.int .u64 0, .slice none 0 0, .slice none 0 0]) ?_ 2 _ rfl; (with_reducible repeat (first | refine blk_drewN ?_ _ | refine blk_drew ?_ | refine blk_alloc ?_ _)); refine blk_put (cs := #[.int .u64 0, .slice none 0 0, .slice none 0 0]) ?_ 1 _ rfl; (with_reducible repeat (first | refine blk_drewN ?_ _ | refine blk_drew ?_ | refine blk_alloc ?_ _)); refine blk_put (cs := #[.int .u64 x123000_1, .slice none 0 0, .slice none 0 0]) ?_ 0 _ rfl; (with_reducible repeat (first | refine blk_drewN ?_ _ | refine blk_drew ?_ | refine blk_alloc ?_ _)); refine blk_far ?_ NB122_137.out _; (with_reducible repeat (first | refine blk_drewN ?_ _ | refine blk_drew ?_ | refine blk_alloc ?_ _)); refine blk_far ?_ NB122_137.out _; (with_reducible repeat (first | refine blk_drewN ?_ _ | refine blk_drew ?_ | refine blk_alloc ?_ _)); refine blk_far ?_ NB122_137.out _; (with_reducible repeat (first | refine blk_drewN ?_ _ | refine blk_drew ?_ | refine blk_alloc ?_ _)); exact BK122.out) Try.underlying105 rfl (by kernel_rfl)) rfl ?_
                exact ⟨_, _, by first | rfl | (simp [errW_none, errW_some] <;> rfl) | (simp [*, errW_none, errW_some] <;> rfl), by first | exact Kd.R_nil _ _ _ _ _ | exact Kd.N_nil _ _ _ _ _ | exact Kd.V_nil _ _ _ _ _ | exact Kd.Q_nil _ _ _ _ _ | exact Kd.S_nil _ _ _ _ _, by first | exact Kd.R_nil _ _ _ _ _ | exact Kd.N_nil _ _ _ _ _ | exact Kd.V_nil _ _ _ _ _ | exact Kd.Q_nil _ _ _ _ _ | exact Kd.S_nil _ _ _ _ _, by repeat (first | (with_reducible first | exact HB.out | apply below_alloc | apply pw_below_drewN | apply below_drew1 | refine below_set ?_ GE122.out | refine below_set ?_ GE123.out | refine below_set ?_ GE137.out) | exact HB.out)⟩
            · rw [if_neg c14] at H
              exact absurd H (by simp)
          · rw [if_neg c13] at H
            have c13b0 : decide (x11_1 < (t124.length : Int)) = false := decide_eq_false c13
            clear c13
            simp only [Option.some.injEq, Prod.mk.injEq] at H
            obtain ⟨rfl, rfl, rfl, rfl, rfl⟩ := H
            obtain ⟨Ao43, co43, eo43⟩ := Kd.R_slice HO_10.out
            subst eo43
            have hnb44 := NB123_122.out
            have hnc44 := NB122_123.out
            have hcz45_0 : wr.cell? ⟨gb123, 0, none⟩ = some (.int .u64 0) := (blk_cell BK123.out 0).trans rfl
            have hcz45_1 : wr.cell? ⟨gb123, 1, none⟩ = some (.slice none 0 0) := (blk_cell BK123.out 1).trans rfl
            have hcz45_2 : wr.cell? ⟨gb123, 2, none⟩ = some (u124002) := (blk_cell BK123.out 2).trans rfl
            have hfz45_0 := blk_frozen BK123.out 0
            have hfz45_1 := blk_frozen BK123.out 1
            have hfz45_2 := blk_frozen BK123.out 2
            have hcz46_0 : wr.cell? ⟨gb122, 0, none⟩ = some (.int .u64 x123000_1) := (blk_cell BK122.out 0).trans rfl
            have hcz46_1 : wr.cell? ⟨gb122, 1, none⟩ = some (.slice none 0 0) := (blk_cell BK122.out 1).trans rfl
            have hcz46_2 : wr.cell? ⟨gb122, 2, none⟩ = some (.slice none 0 0) := (blk_cell BK122.out 2).trans rfl
            have hfz46_0 := blk_frozen BK122.out 0
            have hfz46_1 := blk_frozen BK122.out 1
            have hfz46_2 := blk_frozen BK122.out 2
            obtain ⟨Ao47, co47, eo47⟩ := Kd.R_slice HO_124002.out
            subst eo47
            go_wp2
            refine bodyPost_ret (results_ctt rfl _ _ gb122 105 #[.int .u64 0, .slice none 0 0, .slice Ao47 x124002_1.length co47] (0, 0) _ rfl (by (with_reducible repeat (first | refine blk_drewN ?_ _ | refine blk_drew ?_ | refine blk_alloc ?_ _)); refine blk_put (cs := #[.int .u64 0, .slice none 0 0, .slice none 0 0]) ?_ 2 _ rfl; (with_reducible repeat (first | refine blk_drewN ?_ _ | refine blk_drew ?_ | refine blk_alloc ?_ _)); refine blk_put (cs := #[.int .u64 0, .slice none 0 0, .slice none 0 0]) ?_ 1 _ rfl; (with_reducible repeat (first | refine blk_drewN ?_ _ | refine blk_drew ?_ | refine blk_alloc ?_ _)); refine blk_put (cs := #[.int .u64 x123000_1, .slice none 0 0, .slice none 0 0]) ?_ 0 _ rfl; (with_reducible repeat (first | refine blk_drewN ?_ _ | refine blk_drew ?_ | refine blk_alloc ?_ _)); exact BK122.out) Try.underlying105 rfl (by kernel_rfl)) rfl ?_
            exact ⟨_, _, by first | rfl | (simp [errW_none, errW_some] <;> rfl) | (simp [*, errW_none, errW_some] <;> rfl), by first | exact Kd.R_nil _ _ _ _ _ | exact Kd.N_nil _ _ _ _ _ | exact Kd.V_nil _ _ _ _ _ | exact Kd.Q_nil _ _ _ _ _ | exact Kd.S_nil _ _ _ _ _, by (with_reducible repeat (first | apply Kd.R_alloc | apply Kd.R_drewN | apply Kd.R_drew)); exact Kd.R_mono (Kd.R_far (p := ⟨gb122, 2, none⟩) (Kd.R_far (p := ⟨gb122, 1, none⟩) (Kd.R_far (p := ⟨gb122, 0, none⟩) (Kd.R_mono HO_124002.out (fun k_ hk => (⟨hk, hk.1⟩ : _ ∧ k_ ≠ gb122))) (fun _ hk => hk.2) (.int .u64 0)) (fun _ hk => hk.2) (.slice none 0 0)) (fun _ hk => hk.2) (.slice Ao47 x124002_1.length co47)) (fun _ hk => (by simp [Value.ownBlock])), by repeat (first | (with_reducible first | exact HB.out | apply below_alloc | apply pw_below_drewN | apply below_drew1 | refine below_set ?_ GE122.out | refine below_set ?_ GE123.out) | exact HB.out)⟩
    · rw [if_neg c6] at H
      have c6b0 : ((bt a0 0) == 91) = false := beq_eq_false_iff_ne.mpr c6
      have c6b1 : ((bt a0 0) != 91) = true := bne_iff_ne.mpr c6
      replace H := Option.bind_eq_some_iff.mp H
      obtain ⟨⟨t141, t142, t143⟩, A480, H⟩ := H
      replace H : (if t143 = 0 then (if (bt a0 0) = 110 then (some (t141, ([] : List Int), ([] : List (S105)), t142, 0)) else (if (bt a0 0) = 98 then (echelonref01_Take.j1 k a0 l1 t142 t141 true 0) else (if 1 ≤ (a0.size : Int) then ((echelonref01_Some.f k (a0.extract 1 a0.size)).bind fun t144 => (echelonref01_Take.j1 k a0 l1 t142 t141 t144 0)) else (none)))) else (some (0, ([] : List Int), ([] : List (S105)), a2, t143))) = some (r1, r2, r3, r4, r5) := H
      have A48 := Aside0.mk A480
      clear A480
      by_cases c49 : t143 = 0
      · rw [if_pos c49] at H
        have c49b0 : (t143 == 0) = true := beq_iff_eq.mpr c49
        have c49b1 : (t143 != 0) = false := bne_eq_false_iff_eq.mpr c49
        clear c49
        by_cases c51 : (bt a0 0) = 110
        · rw [if_pos c51] at H
          have c51b0 : ((bt a0 0) == 110) = true := beq_iff_eq.mpr c51
          have c51b1 : ((bt a0 0) != 110) = false := bne_eq_false_iff_eq.mpr c51
          clear c51
          simp only [Option.some.injEq, Prod.mk.injEq] at H
          obtain ⟨rfl, rfl, rfl, rfl, rfl⟩ := H
          go_enter Try.func61, Try.ntmps61
          go_wp2_with (first | ((with_reducible refine gate_dst (N := 6) rfl ?_); (try (refine gate_guard (by rfl) ?_; dsimp only)); refine box_event ?hg (N := 6) ?hd (cs := #[.int .u64 0, .slice none 0 0, .slice none 0 0]) (t := 105) ?hr ?_; (case hd => rfl); (case hg => rfl); (case hr => first | (go_simp; done) | (go_simp; rfl)); intro gb122 hg w52 hbox hb; have n0_ := Aside0.mk (below_step (by repeat (first | (with_reducible first | exact HB.out | apply below_alloc | apply pw_below_drewN | apply below_drew1) | exact HB.out)) hb); have n1_ := Aside0.mk (hbox); have n2_ := Aside0.mk ((by rw [hg]; exact (below_size (by repeat (first | (with_reducible first | exact HB.out | apply below_alloc | apply pw_below_drewN | apply below_drew1) | exact HB.out))) : w.heap.size ≤ gb122)); have n3_ := Aside0.mk ((by rw [hg]; exact (below_size (by repeat (first | (with_reducible first | exact HB.out | apply below_alloc | apply pw_below_drewN | apply below_drew1) | exact HB.out))) : w.heap.size ≤ gb122)); clear HB; have HB := n0_; have BK122 := n1_; have GW122 := n2_; have GE122 := n3_; clear n0_ n1_ n2_ n3_; clear hb hbox hg) | ((with_reducible refine gate_dst (N := 9) rfl ?_); (try (refine gate_guard (by rfl) ?_; dsimp only)); refine box_event ?hg (N := 9) ?hd (cs := #[.int .u64 0, .slice none 0 0, .slice none 0 0]) (t := 105) ?hr ?_; (case hd => rfl); (case hg => rfl); (case hr => first | (go_simp; done) | (go_simp; rfl)); intro gb123 hg w53 hbox hb; have n0_ := Aside0.mk (blk_below (g := gb122) (o := .cells #[.int .u64 0, .slice none 0 0, .slice none 0 0] 105 (0, 0)) (by (with_reducible repeat (first | refine blk_drewN ?_ _ | refine blk_drew ?_ | refine blk_alloc ?_ _)); exact BK122.out) hb); have n1_ := Aside0.mk (below_step (by repeat (first | (with_reducible first | exact HB.out | apply below_alloc | apply pw_below_drewN | apply below_drew1 | refine below_set ?_ GE122.out) | exact HB.out)) hb); have n2_ := Aside0.mk (hbox); have n3_ := Aside0.mk ((by rw [hg]; exact (below_size (by repeat (first | (with_reducible first | exact HB.out | apply below_alloc | apply pw_below_drewN | apply below_drew1 | refine below_set ?_ GE122.out) | exact HB.out))) : w.heap.size ≤ gb123)); have n4_ := Aside0.mk ((by rw [hg]; exact (below_size (by repeat (first | (with_reducible first | exact HB.out | apply below_alloc | apply pw_below_drewN | apply below_drew1 | refine below_set ?_ GE122.out) | exact HB.out))) : w.heap.size ≤ gb123)); have n5_ := Aside0.mk ((by rw [hg]; exact Nat.ne_of_lt (blk_lt (g := gb122) (o := .cells #[.int .u64 0, .slice none 0 0, .slice none 0 0] 105 (0, 0)) (by (with_reducible repeat (first | refine blk_drewN ?_ _ | refine blk_drew ?_ | refine blk_alloc ?_ _)); exact BK122.out)) : gb122 ≠ gb123)); have n6_ := Aside0.mk ((by rw [hg]; exact Nat.ne_of_gt (blk_lt (g := gb122) (o := .cells #[.int .u64 0, .slice none 0 0, .slice none 0 0] 105 (0, 0)) (by (with_reducible repeat (first | refine blk_drewN ?_ _ | refine blk_drew ?_ | refine blk_alloc ?_ _)); exact BK122.out)) : gb123 ≠ gb122)); clear BK122; clear HB; have BK122 := n0_; have HB := n1_; have BK123 := n2_; have GW123 := n3_; have GE123 := n4_; have NB122_123 := n5_; have NB123_122 := n6_; clear n0_ n1_ n2_ n3_ n4_ n5_ n6_; clear hb hbox hg; have hnb54 := NB123_122.out; have hnc54 := NB122_123.out; have hcz55_0 : w53.cell? ⟨gb123, 0, none⟩ = some (.int .u64 0) := (blk_cell BK123.out 0).trans rfl; have hcz55_1 : w53.cell? ⟨gb123, 1, none⟩ = some (.slice none 0 0) := (blk_cell BK123.out 1).trans rfl; have hcz55_2 : w53.cell? ⟨gb123, 2, none⟩ = some (.slice none 0 0) := (blk_cell BK123.out 2).trans rfl; have hfz55_0 := blk_frozen BK123.out 0; have hfz55_1 := blk_frozen BK123.out 1; have hfz55_2 := blk_frozen BK123.out 2; have p5 : 0 ≤ (0 : Int) := (by omega); have q5 : 0 < a0.size := (by have : (0 : Int) < (a0.size : Int) := of_decide_eq_true (by first | (with_reducible assumption) | assumption); omega); have hx5 : ∀ h : 0 < a0.size, ((a0[0]'h).toNat : Int) = bt a0 0 := bt_at a0 0; clear p5; have qi5 : (0 < (a0.size : Int)) = True := eq_true (of_decide_eq_true (by first | (with_reducible assumption) | assumption)); replace q5 := eq_true q5) | ((with_reducible refine gate_callee (f := 83) rfl ?_); refine goesL_ (some 63) rfl rfl Try.func83 (by kernel_rfl) rfl #[.slice A1 l1.length c1, .int .i64 a2] rfl (by (try simp only [List.map_toArray, List.map_cons, List.map_nil]); first | done | rfl | (simp only [List.length_drop, List.length_take]; rfl)) ?_; (with_reducible refine (echelonref01_number.calls k _ _ l1 a2 t141 t142 t143 _ ?side1 ?side2 A48.out).mono ?_); (case side1 => exact Kd.C_below HR1.out (by repeat (first | (with_reducible first | exact HB.out | apply below_alloc | apply pw_below_drewN | apply below_drew1 | refine below_set ?_ GE122.out | refine below_set ?_ GE123.out) | exact HB.out))); (case side2 => exact HC1.out); rintro e w' ⟨rfl, ⟨nd, rfl⟩⟩; refine ⟨_, rfl, ?_⟩; have p50 : 0 ≤ (0 : Int) := (by omega); have q50 : 0 < a0.size := (by have : (0 : Int) < (a0.size : Int) := of_decide_eq_true (by first | (with_reducible assumption) | assumption); omega); have hx50 : ∀ h : 0 < a0.size, ((a0[0]'h).toNat : Int) = bt a0 0 := bt_at a0 0; clear p50; have qi50 : (0 < (a0.size : Int)) = True := eq_true (of_decide_eq_true (by first | (with_reducible assumption) | assumption)); replace q50 := eq_true q50; have hcz56_0 : w53.cell? ⟨gb122, 0, none⟩ = some (.int .u64 0) := (blk_cell BK122.out 0).trans rfl; have hcz56_1 : w53.cell? ⟨gb122, 1, none⟩ = some (.slice none 0 0) := (blk_cell BK122.out 1).trans rfl; have hcz56_2 : w53.cell? ⟨gb122, 2, none⟩ = some (.slice none 0 0) := (blk_cell BK122.out 2).trans rfl; have hfz56_0 := blk_frozen BK122.out 0; have hfz56_1 := blk_frozen BK122.out 1; have hfz56_2 := blk_frozen BK122.out 2))
          refine bodyPost_ret (results_ctt rfl _ _ gb122 105 #[.int .u64 t141, .slice none 0 0, .slice none 0 0] (0, 0) _ rfl (by (with_reducible repeat (first | refine blk_drewN ?_ _ | refine blk_drew ?_ | refine blk_alloc ?_ _)); refine blk_put (cs := #[.int .u64 t141, .slice none 0 0, .slice none 0 0]) ?_ 2 _ rfl; (with_reducible repeat (first | refine blk_drewN ?_ _ | refine blk_drew ?_ | refine blk_alloc ?_ _)); refine blk_put (cs := #[.int .u64 t141, .slice none 0 0, .slice none 0 0]) ?_ 1 _ rfl; (with_reducible repeat (first | refine blk_drewN ?_ _ | refine blk_drew ?_ | refine blk_alloc ?_ _)); refine blk_put (cs := #[.int .u64 0, .slice none 0 0, .slice none 0 0]) ?_ 0 _ rfl; (with_reducible repeat (first | refine blk_drewN ?_ _ | refine blk_drew ?_ | refine blk_alloc ?_ _)); refine blk_far ?_ NB122_123.out _; (with_reducible repeat (first | refine blk_drewN ?_ _ | refine blk_drew ?_ | refine blk_alloc ?_ _)); refine blk_far ?_ NB122_123.out _; (with_reducible repeat (first | refine blk_drewN ?_ _ | refine blk_drew ?_ | refine blk_alloc ?_ _)); refine blk_far ?_ NB122_123.out _; (with_reducible repeat (first | refine blk_drewN ?_ _ | refine blk_drew ?_ | refine blk_alloc ?_ _)); refine blk_far ?_ NB122_123.out _; (with_reducible repeat (first | refine blk_drewN ?_ _ | refine blk_drew ?_ | refine blk_alloc ?_ _)); exact BK122.out) Try.underlying105 rfl (by kernel_rfl)) rfl ?_
          exact ⟨_, _, by first | rfl | (simp [errW_none, errW_some] <;> rfl) | (simp [*, errW_none, errW_some] <;> rfl), by first | exact Kd.R_nil _ _ _ _ _ | exact Kd.N_nil _ _ _ _ _ | exact Kd.V_nil _ _ _ _ _ | exact Kd.Q_nil _ _ _ _ _ | exact Kd.S_nil _ _ _ _ _, by first | exact Kd.R_nil _ _ _ _ _ | exact Kd.N_nil _ _ _ _ _ | exact Kd.V_nil _ _ _ _ _ | exact Kd.Q_nil _ _ _ _ _ | exact Kd.S_nil _ _ _ _ _, by repeat (first | (with_reducible first | exact HB.out | apply below_alloc | apply pw_below_drewN | apply below_drew1 | refine below_set ?_ GE122.out | refine below_set ?_ GE123.out) | exact HB.out)⟩
        · rw [if_neg c51] at H
          have c51b0 : ((bt a0 0) == 110) = false := beq_eq_false_iff_ne.mpr c51
          have c51b1 : ((bt a0 0) != 110) = true := bne_iff_ne.mpr c51
          have HC57 := Aside0.mk H
          clear H
          go_enter Try.func61, Try.ntmps61
          go_upto_region 20 with (first | ((with_reducible refine gate_dst (N := 6) rfl ?_); (try (refine gate_guard (by rfl) ?_; dsimp only)); refine box_event ?hg (N := 6) ?hd (cs := #[.int .u64 0, .slice none 0 0, .slice none 0 0]) (t := 105) ?hr ?_; (case hd => rfl); (case hg => rfl); (case hr => first | (go_simp; done) | (go_simp; rfl)); intro gb122 hg w58 hbox hb; have n0_ := Aside0.mk (below_step (by repeat (first | (with_reducible first | exact HB.out | apply below_alloc | apply pw_below_drewN | apply below_drew1) | exact HB.out)) hb); have n1_ := Aside0.mk (hbox); have n2_ := Aside0.mk ((by rw [hg]; exact (below_size (by repeat (first | (with_reducible first | exact HB.out | apply below_alloc | apply pw_below_drewN | apply below_drew1) | exact HB.out))) : w.heap.size ≤ gb122)); have n3_ := Aside0.mk ((by rw [hg]; exact (below_size (by repeat (first | (with_reducible first | exact HB.out | apply below_alloc | apply pw_below_drewN | apply below_drew1) | exact HB.out))) : w.heap.size ≤ gb122)); clear HB; have HB := n0_; have BK122 := n1_; have GW122 := n2_; have GE122 := n3_; clear n0_ n1_ n2_ n3_; clear hb hbox hg) | ((with_reducible refine gate_dst (N := 9) rfl ?_); (try (refine gate_guard (by rfl) ?_; dsimp only)); refine box_event ?hg (N := 9) ?hd (cs := #[.int .u64 0, .slice none 0 0, .slice none 0 0]) (t := 105) ?hr ?_; (case hd => rfl); (case hg => rfl); (case hr => first | (go_simp; done) | (go_simp; rfl)); intro gb123 hg w59 hbox hb; have n0_ := Aside0.mk (blk_below (g := gb122) (o := .cells #[.int .u64 0, .slice none 0 0, .slice none 0 0] 105 (0, 0)) (by (with_reducible repeat (first | refine blk_drewN ?_ _ | refine blk_drew ?_ | refine blk_alloc ?_ _)); exact BK122.out) hb); have n1_ := Aside0.mk (below_step (by repeat (first | (with_reducible first | exact HB.out | apply below_alloc | apply pw_below_drewN | apply below_drew1 | refine below_set ?_ GE122.out) | exact HB.out)) hb); have n2_ := Aside0.mk (hbox); have n3_ := Aside0.mk ((by rw [hg]; exact (below_size (by repeat (first | (with_reducible first | exact HB.out | apply below_alloc | apply pw_below_drewN | apply below_drew1 | refine below_set ?_ GE122.out) | exact HB.out))) : w.heap.size ≤ gb123)); have n4_ := Aside0.mk ((by rw [hg]; exact (below_size (by repeat (first | (with_reducible first | exact HB.out | apply below_alloc | apply pw_below_drewN | apply below_drew1 | refine below_set ?_ GE122.out) | exact HB.out))) : w.heap.size ≤ gb123)); have n5_ := Aside0.mk ((by rw [hg]; exact Nat.ne_of_lt (blk_lt (g := gb122) (o := .cells #[.int .u64 0, .slice none 0 0, .slice none 0 0] 105 (0, 0)) (by (with_reducible repeat (first | refine blk_drewN ?_ _ | refine blk_drew ?_ | refine blk_alloc ?_ _)); exact BK122.out)) : gb122 ≠ gb123)); have n6_ := Aside0.mk ((by rw [hg]; exact Nat.ne_of_gt (blk_lt (g := gb122) (o := .cells #[.int .u64 0, .slice none 0 0, .slice none 0 0] 105 (0, 0)) (by (with_reducible repeat (first | refine blk_drewN ?_ _ | refine blk_drew ?_ | refine blk_alloc ?_ _)); exact BK122.out)) : gb123 ≠ gb122)); clear BK122; clear HB; have BK122 := n0_; have HB := n1_; have BK123 := n2_; have GW123 := n3_; have GE123 := n4_; have NB122_123 := n5_; have NB123_122 := n6_; clear n0_ n1_ n2_ n3_ n4_ n5_ n6_; clear hb hbox hg; have hnb60 := NB123_122.out; have hnc60 := NB122_123.out; have hcz61_0 : w59.cell? ⟨gb123, 0, none⟩ = some (.int .u64 0) := (blk_cell BK123.out 0).trans rfl; have hcz61_1 : w59.cell? ⟨gb123, 1, none⟩ = some (.slice none 0 0) := (blk_cell BK123.out 1).trans rfl; have hcz61_2 : w59.cell? ⟨gb123, 2, none⟩ = some (.slice none 0 0) := (blk_cell BK123.out 2).trans rfl; have hfz61_0 := blk_frozen BK123.out 0; have hfz61_1 := blk_frozen BK123.out 1; have hfz61_2 := blk_frozen BK123.out 2; have p5 : 0 ≤ (0 : Int) := (by omega); have q5 : 0 < a0.size := (by have : (0 : Int) < (a0.size : Int) := of_decide_eq_true (by first | (with_reducible assumption) | assumption); omega); have hx5 : ∀ h : 0 < a0.size, ((a0[0]'h).toNat : Int) = bt a0 0 := bt_at a0 0; clear p5; have qi5 : (0 < (a0.size : Int)) = True := eq_true (of_decide_eq_true (by first | (with_reducible assumption) | assumption)); replace q5 := eq_true q5) | ((with_reducible refine gate_callee (f := 83) rfl ?_); refine goesL_ (some 63) rfl rfl Try.func83 (by kernel_rfl) rfl #[.slice A1 l1.length c1, .int .i64 a2] rfl (by (try simp only [List.map_toArray, List.map_cons, List.map_nil]); first | done | rfl | (simp only [List.length_drop, List.length_take]; rfl)) ?_; (with_reducible refine (echelonref01_number.calls k _ _ l1 a2 t141 t142 t143 _ ?side1 ?side2 A48.out).mono ?_); (case side1 => exact Kd.C_below HR1.out (by repeat (first | (with_reducible first | exact HB.out | apply below_alloc | apply pw_below_drewN | apply below_drew1 | refine below_set ?_ GE122.out | refine below_set ?_ GE123.out) | exact HB.out))); (case side2 => exact HC1.out); rintro e w' ⟨rfl, ⟨nd, rfl⟩⟩; refine ⟨_, rfl, ?_⟩; have p50 : 0 ≤ (0 : Int) := (by omega); have q50 : 0 < a0.size := (by have : (0 : Int) < (a0.size : Int) := of_decide_eq_true (by first | (with_reducible assumption) | assumption); omega); have hx50 : ∀ h : 0 < a0.size, ((a0[0]'h).toNat : Int) = bt a0 0 := bt_at a0 0; clear p50; have qi50 : (0 < (a0.size : Int)) = True := eq_true (of_decide_eq_true (by first | (with_reducible assumption) | assumption)); replace q50 := eq_true q50))
          (try simp only [Act.put, List.setIfInBounds_toArray, List.set_cons_zero, List.set_cons_succ])
          go_cut [18] (fun v18 wc => ∃ (kq : Nat) (x18_56 : Bool), v18 = .bool x18_56 ∧ Aside0 (echelonref01_Take.j1 kq a0 l1 t142 t141 x18_56 0 = some (r1, r2, r3, r4, r5)) ∧ Aside0 (kq ≤ k) ∧ Aside0 (wc.heap[gb122]? = some (.cells #[.int .u64 0, (.slice none 0 0), (.slice none 0 0)] 105 (0, 0))) ∧ Aside0 (wc.heap[gb123]? = some (.cells #[.int .u64 0, (.slice none 0 0), (.slice none 0 0)] 105 (0, 0))) ∧ Aside0 (Below w.heap.size w wc))
          case first =>
            have H := HC57.out
            clear HC57
            by_cases c63 : (bt a0 0) = 98
            · rw [if_pos c63] at H
              have c63b0 : ((bt a0 0) == 98) = true := beq_iff_eq.mpr c63
              have c63b1 : ((bt a0 0) != 98) = false := bne_eq_false_iff_eq.mpr c63
              clear c63
              (first | rw [c63b0] | (simp only [i64_w, i32_w]; rw [c63b0]) | skip)
              have H' := Aside0.mk H
              clear H
              have p62 : 0 ≤ (0 : Int) := (by omega)
              have q62 : 0 < a0.size := (by have : (0 : Int) < (a0.size : Int) := of_decide_eq_true (by first | (with_reducible assumption) | assumption); omega)
              have hx62 : ∀ h : 0 < a0.size, ((a0[0]'h).toNat : Int) = bt a0 0 := bt_at a0 0
              clear p62
              have qi62 : (0 < (a0.size : Int)) = True := eq_true (of_decide_eq_true (by first | (with_reducible assumption) | assumption))
              replace q62 := eq_true q62
              go_wp2
              go_meet
              case rel => exact ⟨_, (true), (by first | rfl | (simp; done) | (simp [*]; done)), H', ⟨by first | omega | exact Nat.le_refl _⟩, ⟨by (with_reducible repeat (first | refine blk_drewN ?_ _ | refine blk_drew ?_ | refine blk_alloc ?_ _)); refine blk_far ?_ NB122_123.out _; (with_reducible repeat (first | refine blk_drewN ?_ _ | refine blk_drew ?_ | refine blk_alloc ?_ _)); refine blk_far ?_ NB122_123.out _; (with_reducible repeat (first | refine blk_drewN ?_ _ | refine blk_drew ?_ | refine blk_alloc ?_ _)); refine blk_far ?_ NB122_123.out _; (with_reducible repeat (first | refine blk_drewN ?_ _ | refine blk_drew ?_ | refine blk_alloc ?_ _)); exact BK122.out⟩, ⟨by (with_reducible repeat (first | refine blk_drewN ?_ _ | refine blk_drew ?_ | refine blk_alloc ?_ _)); refine blk_put (cs := #[.int .u64 0, .slice none 0 0, .slice none 0 0]) ?_ 2 _ rfl; (with_reducible repeat (first | refine blk_drewN ?_ _ | refine blk_drew ?_ | refine blk_alloc ?_ _)); refine blk_put (cs := #[.int .u64 0, .slice none 0 0, .slice none 0 0]) ?_ 1 _ rfl; (with_reducible repeat (first | refine blk_drewN ?_ _ | refine blk_drew ?_ | refine blk_alloc ?_ _)); refine blk_put (cs := #[.int .u64 0, .slice none 0 0, .slice none 0 0]) ?_ 0 _ rfl; (with_reducible repeat (first | refine blk_drewN ?_ _ | refine blk_drew ?_ | refine blk_alloc ?_ _)); exact BK123.out⟩, ⟨by repeat (first | (with_reducible first | exact HB.out | apply below_alloc | apply pw_below_drewN | apply below_drew1 | refine below_set ?_ GE122.out | refine below_set ?_ GE123.out) | exact HB.out)⟩⟩
            · rw [if_neg c63] at H
              have c63b0 : ((bt a0 0) == 98) = false := beq_eq_false_iff_ne.mpr c63
              have c63b1 : ((bt a0 0) != 98) = true := bne_iff_ne.mpr c63
              (first | rw [c63b0] | (simp only [i64_w, i32_w]; rw [c63b0]) | skip)
              by_cases c64 : 1 ≤ (a0.size : Int)
              · rw [if_pos c64] at H
                have c64b0 := eq_true c64
                have c64b1 : decide (1 ≤ (a0.size : Int)) = true := decide_eq_true c64
                clear c64
                replace H := Option.bind_eq_some_iff.mp H
                obtain ⟨t144, A650, H⟩ := H
                replace H : (echelonref01_Take.j1 k a0 l1 t142 t141 t144 0) = some (r1, r2, r3, r4, r5) := H
                have A65 := Aside0.mk A650
                clear A650
                have H' := Aside0.mk H
                clear H
                have p62 : 0 ≤ (0 : Int) := (by omega)
                have q62 : 0 < a0.size := (by have : (0 : Int) < (a0.size : Int) := of_decide_eq_true (by first | (with_reducible assumption) | assumption); omega)
                have hx62 : ∀ h : 0 < a0.size, ((a0[0]'h).toNat : Int) = bt a0 0 := bt_at a0 0
                clear p62
                have qi62 : (0 < (a0.size : Int)) = True := eq_true (of_decide_eq_true (by first | (with_reducible assumption) | assumption))
                replace q62 := eq_true q62
                go_wp2_with (first | (go_at_call 84; (with_reducible refine (echelonref01_Some.calls k (a0.extract 1 a0.size) t144 _ A65.out).mono ?_); rintro e w66 ⟨rfl, hb⟩; have n0_ := Aside0.mk (blk_below (g := gb122) (o := .cells #[.int .u64 0, .slice none 0 0, .slice none 0 0] 105 (0, 0)) (by (with_reducible repeat (first | refine blk_drewN ?_ _ | refine blk_drew ?_ | refine blk_alloc ?_ _)); refine blk_far ?_ NB122_123.out _; (with_reducible repeat (first | refine blk_drewN ?_ _ | refine blk_drew ?_ | refine blk_alloc ?_ _)); refine blk_far ?_ NB122_123.out _; (with_reducible repeat (first | refine blk_drewN ?_ _ | refine blk_drew ?_ | refine blk_alloc ?_ _)); refine blk_far ?_ NB122_123.out _; (with_reducible repeat (first | refine blk_drewN ?_ _ | refine blk_drew ?_ | refine blk_alloc ?_ _)); exact BK122.out) hb); have n1_ := Aside0.mk (blk_below (g := gb123) (o := .cells #[.int .u64 0, .slice none 0 0, .slice none 0 0] 105 (0, 0)) (by (with_reducible repeat (first | refine blk_drewN ?_ _ | refine blk_drew ?_ | refine blk_alloc ?_ _)); refine blk_put (cs := #[.int .u64 0, .slice none 0 0, .slice none 0 0]) ?_ 2 _ rfl; (with_reducible repeat (first | refine blk_drewN ?_ _ | refine blk_drew ?_ | refine blk_alloc ?_ _)); refine blk_put (cs := #[.int .u64 0, .slice none 0 0, .slice none 0 0]) ?_ 1 _ rfl; (with_reducible repeat (first | refine blk_drewN ?_ _ | refine blk_drew ?_ | refine blk_alloc ?_ _)); refine blk_put (cs := #[.int .u64 0, .slice none 0 0, .slice none 0 0]) ?_ 0 _ rfl; (with_reducible repeat (first | refine blk_drewN ?_ _ | refine blk_drew ?_ | refine blk_alloc ?_ _)); exact BK123.out) hb); have n2_ := Aside0.mk (below_step (by repeat (first | (with_reducible first | exact HB.out | apply below_alloc | apply pw_below_drewN | apply below_drew1 | refine below_set ?_ GE122.out | refine below_set ?_ GE123.out) | exact HB.out)) hb); clear BK122; clear BK123; clear HB; have BK122 := n0_; have BK123 := n1_; have HB := n2_; clear n0_ n1_ n2_; (try clear hb); (try clear hb2); (try clear hk); (try clear hi)))
                go_meet
                case rel => exact ⟨_, (t144), (by first | rfl | (simp; done) | (simp [*]; done)), H', ⟨by first | omega | exact Nat.le_refl _⟩, ⟨by (with_reducible repeat (first | refine blk_drewN ?_ _ | refine blk_drew ?_ | refine blk_alloc ?_ _)); exact BK122.out⟩, ⟨by (with_reducible repeat (first | refine blk_drewN ?_ _ | refine blk_drew ?_ | refine blk_alloc ?_ _)); exact BK123.out⟩, ⟨by repeat (first | (with_reducible first | exact HB.out | apply below_alloc | apply pw_below_drewN | apply below_drew1 | refine below_set ?_ GE122.out | refine below_set ?_ GE123.out) | exact HB.out)⟩⟩
              · rw [if_neg c64] at H
                exact absurd H (by simp)
          case rest =>
            clear HC57
            try clear c1
            try clear p1
            try clear q1
            try clear hx1
            try clear c2
            try clear p2
            try clear c3
            try clear c4
            try clear c4b0
            try clear c4b1
            try clear c5
            try clear p5
            try clear q5
            try clear hx5
            try clear qi5
            try clear c6
            try clear c6b0
            try clear c6b1
            try clear p6
            try clear q6
            try clear hx6
            try clear qi6
            try clear c8
            try clear c10
            try clear p12
            try clear q12
            try clear hx12
            try clear c13
            try clear c13b0
            try clear c14
            try clear c14b0
            try clear c16
            try clear c16b0
            try clear c16b1
            try clear c17
            try clear c21
            try clear c22
            try clear c27
            try clear c36
            try clear c37
            try clear c41
            try clear c44
            try clear c49
            try clear c49b0
            try clear c49b1
            try clear p50
            try clear q50
            try clear hx50
            try clear qi50
            try clear c51
            try clear c51b0
            try clear c51b1
            try clear c54
            try clear c60
            try clear c61
            try clear p62
            try clear q62
            try clear hx62
            try clear qi62
            try clear c63
            try clear c63b0
            try clear c63b1
            try clear c64
            try clear c64b0
            try clear c64b1
            try clear p64
            try clear hcz11_0
            try clear hcz11_1
            try clear hcz11_2
            try clear hcz23_0
            try clear hcz23_1
            try clear hcz23_2
            try clear hcz28_0
            try clear hcz28_1
            try clear hcz28_2
            try clear hcz29_0
            try clear hcz29_1
            try clear hcz29_2
            try clear hcz32_0
            try clear hcz32_1
            try clear hcz32_2
            try clear hcz38_0
            try clear hcz38_1
            try clear hcz38_2
            try clear hcz42_0
            try clear hcz42_1
            try clear hcz42_2
            try clear hcz45_0
            try clear hcz45_1
            try clear hcz45_2
            try clear hcz46_0
            try clear hcz46_1
            try clear hcz46_2
            try clear hcz55_0
            try clear hcz55_1
            try clear hcz55_2
            try clear hcz56_0
            try clear hcz56_1
            try clear hcz56_2
            try clear hcz61_0
            try clear hcz61_1
            try clear hcz61_2
            try clear hfz11_0
            try clear hfz11_1
            try clear hfz11_2
            try clear hfz23_0
            try clear hfz23_1
            try clear hfz23_2
            try clear hfz28_0
            try clear hfz28_1
            try clear hfz28_2
            try clear hfz29_0
            try clear hfz29_1
            try clear hfz29_2
            try clear hfz32_0
            try clear hfz32_1
            try clear hfz32_2
            try clear hfz38_0
            try clear hfz38_1
            try clear hfz38_2
            try clear hfz42_0
            try clear hfz42_1
            try clear hfz42_2
            try clear hfz45_0
            try clear hfz45_1
            try clear hfz45_2
            try clear hfz46_0
            try clear hfz46_1
            try clear hfz46_2
            try clear hfz55_0
            try clear hfz55_1
            try clear hfz55_2
            try clear hfz56_0
            try clear hfz56_1
            try clear hfz56_2
            try clear hfz61_0
            try clear hfz61_1
            try clear hfz61_2
            try clear hx127_0
            try clear p127
            try clear p2
            try clear p5
            try clear p50
            try clear p62
            try clear q127
            try clear q5
            try clear q50
            try clear q62
            obtain ⟨kq, x18_56, rfl, HA, HJ56, BK122, BK123, HB⟩ := hcut
            cases kq with
            | zero => exact absurd HA.out (by simp [echelonref01_Take.j1])
            | succ kj56 =>
              have H := HA.out
              clear HA
              simp only [echelonref01_Take.j1] at H
              have HC67 := Aside0.mk H
              clear H
              go_upto_region 21 with (fail)
              go_cut [97] (fun v97 wc => ∃ (kq : Nat) (x97_66 : Bool), v97 = .bool x97_66 ∧ Aside0 (echelonref01_Take.j2 kq a0 l1 t142 t141 x18_56 x97_66 0 = some (r1, r2, r3, r4, r5)) ∧ Aside0 (kq ≤ kj56) ∧ Aside0 (wc.heap[gb122]? = some (.cells #[.int .u64 0, (.slice none 0 0), (.slice none 0 0)] 105 (0, 0))) ∧ Aside0 (wc.heap[gb123]? = some (.cells #[.int .u64 0, (.slice none 0 0), (.slice none 0 0)] 105 (0, 0))) ∧ Aside0 (Below w.heap.size w wc))
              case first =>
                have H := HC67.out
                clear HC67
                by_cases c68 : x18_56 = true
                · subst c68
                  have H1 : (echelonref01_Take.j2 kj56 a0 l1 t142 t141 true (decide (t141 > (IntKind.u64.wrap (wrap64 ((l1.length : Int) - t142))))) 0) = some (r1, r2, r3, r4, r5) := by rw [if_pos rfl] at H; exact H
                  clear H
                  have H := H1
                  clear H1
                  have H' := Aside0.mk H
                  clear H
                  go_wp2
                  go_meet
                  case rel => exact ⟨_, (decide (t141 > (IntKind.u64.wrap (wrap64 ((l1.length : Int) - t142))))), (by first | rfl | (simp; done) | (simp [*]; done)), H', ⟨by have := HJ56.out; first | omega | exact Nat.le_refl _⟩, ⟨by (with_reducible repeat (first | refine blk_drewN ?_ _ | refine blk_drew ?_ | refine blk_alloc ?_ _)); exact BK122.out⟩, ⟨by (with_reducible repeat (first | refine blk_drewN ?_ _ | refine blk_drew ?_ | refine blk_alloc ?_ _)); exact BK123.out⟩, ⟨by repeat (first | (with_reducible first | exact HB.out | apply below_alloc | apply pw_below_drewN | apply below_drew1 | refine below_set ?_ GE122.out | refine below_set ?_ GE123.out) | exact HB.out)⟩⟩
                · replace c68 := Bool.eq_false_iff.mpr c68
                  subst c68
                  have H1 : (echelonref01_Take.j2 kj56 a0 l1 t142 t141 false false 0) = some (r1, r2, r3, r4, r5) := by rw [if_neg (show ¬ (false = true) by decide)] at H; exact H
                  clear H
                  have H := H1
                  clear H1
                  have H' := Aside0.mk H
                  clear H
                  go_wp2
                  go_meet
                  case rel => exact ⟨_, (false), (by first | rfl | (simp; done) | (simp [*]; done)), H', ⟨by have := HJ56.out; first | omega | exact Nat.le_refl _⟩, ⟨by (with_reducible repeat (first | refine blk_drewN ?_ _ | refine blk_drew ?_ | refine blk_alloc ?_ _)); exact BK122.out⟩, ⟨by (with_reducible repeat (first | refine blk_drewN ?_ _ | refine blk_drew ?_ | refine blk_alloc ?_ _)); exact BK123.out⟩, ⟨by repeat (first | (with_reducible first | exact HB.out | apply below_alloc | apply pw_below_drewN | apply below_drew1 | refine below_set ?_ GE122.out | refine below_set ?_ GE123.out) | exact HB.out)⟩⟩
              case rest =>
                clear HC67
                try clear c1
                try clear p1
                try clear q1
                try clear hx1
                try clear c2
                try clear p2
                try clear c3
                try clear c4
                try clear c4b0
                try clear c4b1
                try clear c5
                try clear p5
                try clear q5
                try clear hx5
                try clear qi5
                try clear c6
                try clear c6b0
                try clear c6b1
                try clear p6
                try clear q6
                try clear hx6
                try clear qi6
                try clear c8
                try clear c10
                try clear p12
                try clear q12
                try clear hx12
                try clear c13
                try clear c13b0
                try clear c14
                try clear c14b0
                try clear c16
                try clear c16b0
                try clear c16b1
                try clear c17
                try clear c21
                try clear c22
                try clear c27
                try clear c36
                try clear c37
                try clear c41
                try clear c44
                try clear c49
                try clear c49b0
                try clear c49b1
                try clear p50
                try clear q50
                try clear hx50
                try clear qi50
                try clear c51
                try clear c51b0
                try clear c51b1
                try clear c54
                try clear c60
                try clear c61
                try clear p62
                try clear q62
                try clear hx62
                try clear qi62
                try clear c63
                try clear c63b0
                try clear c63b1
                try clear c64
                try clear c64b0
                try clear c64b1
                try clear p64
                try clear c68
                try clear hcz11_0
                try clear hcz11_1
                try clear hcz11_2
                try clear hcz23_0
                try clear hcz23_1
                try clear hcz23_2
                try clear hcz28_0
                try clear hcz28_1
                try clear hcz28_2
                try clear hcz29_0
                try clear hcz29_1
                try clear hcz29_2
                try clear hcz32_0
                try clear hcz32_1
                try clear hcz32_2
                try clear hcz38_0
                try clear hcz38_1
                try clear hcz38_2
                try clear hcz42_0
                try clear hcz42_1
                try clear hcz42_2
                try clear hcz45_0
                try clear hcz45_1
                try clear hcz45_2
                try clear hcz46_0
                try clear hcz46_1
                try clear hcz46_2
                try clear hcz55_0
                try clear hcz55_1
                try clear hcz55_2
                try clear hcz56_0
                try clear hcz56_1
                try clear hcz56_2
                try clear hcz61_0
                try clear hcz61_1
                try clear hcz61_2
                try clear hfz11_0
                try clear hfz11_1
                try clear hfz11_2
                try clear hfz23_0
                try clear hfz23_1
                try clear hfz23_2
                try clear hfz28_0
                try clear hfz28_1
                try clear hfz28_2
                try clear hfz29_0
                try clear hfz29_1
                try clear hfz29_2
                try clear hfz32_0
                try clear hfz32_1
                try clear hfz32_2
                try clear hfz38_0
                try clear hfz38_1
                try clear hfz38_2
                try clear hfz42_0
                try clear hfz42_1
                try clear hfz42_2
                try clear hfz45_0
                try clear hfz45_1
                try clear hfz45_2
                try clear hfz46_0
                try clear hfz46_1
                try clear hfz46_2
                try clear hfz55_0
                try clear hfz55_1
                try clear hfz55_2
                try clear hfz56_0
                try clear hfz56_1
                try clear hfz56_2
                try clear hfz61_0
                try clear hfz61_1
                try clear hfz61_2
                try clear hx127_0
                try clear p1
                try clear p12
                try clear p127
                try clear p2
                try clear p5
                try clear p50
                try clear p6
                try clear p62
                try clear p64
                try clear q1
                try clear q12
                try clear q127
                try clear q5
                try clear q50
                try clear q6
                try clear q62
                obtain ⟨kq, x97_66, rfl, HA, HJ66, BK122, BK123, HB⟩ := hcut
                cases kq with
                | zero => exact absurd HA.out (by simp [echelonref01_Take.j2])
                | succ kj66 =>
                  have H := HA.out
                  clear HA
                  simp only [echelonref01_Take.j2] at H
                  by_cases c69 : x97_66 = true
                  · subst c69
                    have H1 : (some (0, ([] : List Int), ([] : List (S105)), t142, 11)) = some (r1, r2, r3, r4, r5) := by rw [if_pos rfl] at H; exact H
                    clear H
                    have H := H1
                    clear H1
                    simp only [Option.some.injEq, Prod.mk.injEq] at H
                    obtain ⟨rfl, rfl, rfl, rfl, rfl⟩ := H
                    have hnb70 := NB123_122.out
                    have hnc70 := NB122_123.out
                    have hcz71_0 : wc.cell? ⟨gb123, 0, none⟩ = some (.int .u64 0) := (blk_cell BK123.out 0).trans rfl
                    have hcz71_1 : wc.cell? ⟨gb123, 1, none⟩ = some (.slice none 0 0) := (blk_cell BK123.out 1).trans rfl
                    have hcz71_2 : wc.cell? ⟨gb123, 2, none⟩ = some (.slice none 0 0) := (blk_cell BK123.out 2).trans rfl
                    have hfz71_0 := blk_frozen BK123.out 0
                    have hfz71_1 := blk_frozen BK123.out 1
                    have hfz71_2 := blk_frozen BK123.out 2
                    have hcz72_0 : wc.cell? ⟨gb122, 0, none⟩ = some (.int .u64 0) := (blk_cell BK122.out 0).trans rfl
                    have hcz72_1 : wc.cell? ⟨gb122, 1, none⟩ = some (.slice none 0 0) := (blk_cell BK122.out 1).trans rfl
                    have hcz72_2 : wc.cell? ⟨gb122, 2, none⟩ = some (.slice none 0 0) := (blk_cell BK122.out 2).trans rfl
                    have hfz72_0 := blk_frozen BK122.out 0
                    have hfz72_1 := blk_frozen BK122.out 1
                    have hfz72_2 := blk_frozen BK122.out 2
                    go_wp2
                    refine bodyPost_ret (results_ctt rfl _ _ gb122 105 #[.int .u64 0, .slice none 0 0, .slice none 0 0] (0, 0) _ rfl (by (with_reducible repeat (first | refine blk_drewN ?_ _ | refine blk_drew ?_ | refine blk_alloc ?_ _)); refine blk_put (cs := #[.int .u64 0, .slice none 0 0, .slice none 0 0]) ?_ 2 _ rfl; (with_reducible repeat (first | refine blk_drewN ?_ _ | refine blk_drew ?_ | refine blk_alloc ?_ _)); refine blk_put (cs := #[.int .u64 0, .slice none 0 0, .slice none 0 0]) ?_ 1 _ rfl; (with_reducible repeat (first | refine blk_drewN ?_ _ | refine blk_drew ?_ | refine blk_alloc ?_ _)); refine blk_put (cs := #[.int .u64 0, .slice none 0 0, .slice none 0 0]) ?_ 0 _ rfl; (with_reducible repeat (first | refine blk_drewN ?_ _ | refine blk_drew ?_ | refine blk_alloc ?_ _)); exact BK122.out) Try.underlying105 rfl (by kernel_rfl)) rfl ?_
                    exact ⟨_, _, by first | rfl | (simp [errW_none, errW_some] <;> rfl) | (simp [*, errW_none, errW_some] <;> rfl), by first | exact Kd.R_nil _ _ _ _ _ | exact Kd.N_nil _ _ _ _ _ | exact Kd.V_nil _ _ _ _ _ | exact Kd.Q_nil _ _ _ _ _ | exact Kd.S_nil _ _ _ _ _, by first | exact Kd.R_nil _ _ _ _ _ | exact Kd.N_nil _ _ _ _ _ | exact Kd.V_nil _ _ _ _ _ | exact Kd.Q_nil _ _ _ _ _ | exact Kd.S_nil _ _ _ _ _, by repeat (first | (with_reducible first | exact HB.out | apply below_alloc | apply pw_below_drewN | apply below_drew1 | refine below_set ?_ GE122.out | refine below_set ?_ GE123.out) | exact HB.out)⟩
                  · replace c69 := Bool.eq_false_iff.mpr c69
                    subst c69
                    have H1 : (if t141 > 1048576 then (echelonref01_Take.j3 kj66 a0 l1 t142 t141 (!x18_56) 0) else (echelonref01_Take.j3 kj66 a0 l1 t142 t141 false 0)) = some (r1, r2, r3, r4, r5) := by rw [if_neg (show ¬ (false = true) by decide)] at H; exact H
                    clear H
                    have H := H1
                    clear H1
                    have HC73 := Aside0.mk H
                    clear H
                    go_upto_region 23 with (fail)
                    go_cut [105] (fun v105 wc => ∃ (kq : Nat) (x105_72 : Bool), v105 = .bool x105_72 ∧ Aside0 (echelonref01_Take.j3 kq a0 l1 t142 t141 x105_72 0 = some (r1, r2, r3, r4, r5)) ∧ Aside0 (kq ≤ kj66) ∧ Aside0 (wc.heap[gb122]? = some (.cells #[.int .u64 0, (.slice none 0 0), (.slice none 0 0)] 105 (0, 0))) ∧ Aside0 (wc.heap[gb123]? = some (.cells #[.int .u64 0, (.slice none 0 0), (.slice none 0 0)] 105 (0, 0))) ∧ Aside0 (Below w.heap.size w wc))
                    case first =>
                      have H := HC73.out
                      clear HC73
                      by_cases c74 : t141 > 1048576
                      · rw [if_pos c74] at H
                        have c74b0 : decide (1048576 < t141) = true := decide_eq_true c74
                        clear c74
                        (first | rw [c74b0] | (simp only [i64_w, i32_w]; rw [c74b0]) | skip)
                        have H' := Aside0.mk H
                        clear H
                        go_wp2
                        go_meet
                        case rel => exact ⟨_, (!x18_56), (by first | rfl | (simp; done) | (simp [*]; done)), H', ⟨by have := HJ56.out; have := HJ66.out; first | omega | exact Nat.le_refl _⟩, ⟨by (with_reducible repeat (first | refine blk_drewN ?_ _ | refine blk_drew ?_ | refine blk_alloc ?_ _)); exact BK122.out⟩, ⟨by (with_reducible repeat (first | refine blk_drewN ?_ _ | refine blk_drew ?_ | refine blk_alloc ?_ _)); exact BK123.out⟩, ⟨by repeat (first | (with_reducible first | exact HB.out | apply below_alloc | apply pw_below_drewN | apply below_drew1 | refine below_set ?_ GE122.out | refine below_set ?_ GE123.out) | exact HB.out)⟩⟩
                      · rw [if_neg c74] at H
                        have c74b0 : decide (1048576 < t141) = false := decide_eq_false c74
                        clear c74
                        (first | rw [c74b0] | (simp only [i64_w, i32_w]; rw [c74b0]) | skip)
                        have H' := Aside0.mk H
                        clear H
                        go_wp2
                        go_meet
                        case rel => exact ⟨_, (false), (by first | rfl | (simp; done) | (simp [*]; done)), H', ⟨by have := HJ56.out; have := HJ66.out; first | omega | exact Nat.le_refl _⟩, ⟨by (with_reducible repeat (first | refine blk_drewN ?_ _ | refine blk_drew ?_ | refine blk_alloc ?_ _)); exact BK122.out⟩, ⟨by (with_reducible repeat (first | refine blk_drewN ?_ _ | refine blk_drew ?_ | refine blk_alloc ?_ _)); exact BK123.out⟩, ⟨by repeat (first | (with_reducible first | exact HB.out | apply below_alloc | apply pw_below_drewN | apply below_drew1 | refine below_set ?_ GE122.out | refine below_set ?_ GE123.out) | exact HB.out)⟩⟩
                    case rest =>
                      clear HC73
                      try clear c1
                      try clear p1
                      try clear q1
                      try clear hx1
                      try clear c2
                      try clear p2
                      try clear c3
                      try clear c4
                      try clear c4b0
                      try clear c4b1
                      try clear c5
                      try clear p5
                      try clear q5
                      try clear hx5
                      try clear qi5
                      try clear c6
                      try clear c6b0
                      try clear c6b1
                      try clear p6
                      try clear q6
                      try clear hx6
                      try clear qi6
                      try clear c7
                      try clear c8
                      try clear c10
                      try clear p12
                      try clear q12
                      try clear hx12
                      try clear c13
                      try clear c13b0
                      try clear c14
                      try clear c14b0
                      try clear c16
                      try clear c16b0
                      try clear c16b1
                      try clear c17
                      try clear c21
                      try clear c22
                      try clear c27
                      try clear c36
                      try clear c37
                      try clear c41
                      try clear c44
                      try clear c49
                      try clear c49b0
                      try clear c49b1
                      try clear p50
                      try clear q50
                      try clear hx50
                      try clear qi50
                      try clear c51
                      try clear c51b0
                      try clear c51b1
                      try clear c54
                      try clear c60
                      try clear c61
                      try clear p62
                      try clear q62
                      try clear hx62
                      try clear qi62
                      try clear c63
                      try clear c63b0
                      try clear c63b1
                      try clear c64
                      try clear c64b0
                      try clear c64b1
                      try clear p64
                      try clear c68
                      try clear c69
                      try clear c70
                      try clear c74
                      try clear c74b0
                      try clear hcz11_0
                      try clear hcz11_1
                      try clear hcz11_2
                      try clear hcz23_0
                      try clear hcz23_1
                      try clear hcz23_2
                      try clear hcz28_0
                      try clear hcz28_1
                      try clear hcz28_2
                      try clear hcz29_0
                      try clear hcz29_1
                      try clear hcz29_2
                      try clear hcz32_0
                      try clear hcz32_1
                      try clear hcz32_2
                      try clear hcz38_0
                      try clear hcz38_1
                      try clear hcz38_2
                      try clear hcz42_0
                      try clear hcz42_1
                      try clear hcz42_2
                      try clear hcz45_0
                      try clear hcz45_1
                      try clear hcz45_2
                      try clear hcz46_0
                      try clear hcz46_1
                      try clear hcz46_2
                      try clear hcz55_0
                      try clear hcz55_1
                      try clear hcz55_2
                      try clear hcz56_0
                      try clear hcz56_1
                      try clear hcz56_2
                      try clear hcz61_0
                      try clear hcz61_1
                      try clear hcz61_2
                      try clear hcz71_0
                      try clear hcz71_1
                      try clear hcz71_2
                      try clear hcz72_0
                      try clear hcz72_1
                      try clear hcz72_2
                      try clear hfz11_0
                      try clear hfz11_1
                      try clear hfz11_2
                      try clear hfz23_0
                      try clear hfz23_1
                      try clear hfz23_2
                      try clear hfz28_0
                      try clear hfz28_1
                      try clear hfz28_2
                      try clear hfz29_0
                      try clear hfz29_1
                      try clear hfz29_2
                      try clear hfz32_0
                      try clear hfz32_1
                      try clear hfz32_2
                      try clear hfz38_0
                      try clear hfz38_1
                      try clear hfz38_2
                      try clear hfz42_0
                      try clear hfz42_1
                      try clear hfz42_2
                      try clear hfz45_0
                      try clear hfz45_1
                      try clear hfz45_2
                      try clear hfz46_0
                      try clear hfz46_1
                      try clear hfz46_2
                      try clear hfz55_0
                      try clear hfz55_1
                      try clear hfz55_2
                      try clear hfz56_0
                      try clear hfz56_1
                      try clear hfz56_2
                      try clear hfz61_0
                      try clear hfz61_1
                      try clear hfz61_2
                      try clear hfz71_0
                      try clear hfz71_1
                      try clear hfz71_2
                      try clear hfz72_0
                      try clear hfz72_1
                      try clear hfz72_2
                      try clear hx127_0
                      try clear p1
                      try clear p12
                      try clear p127
                      try clear p2
                      try clear p5
                      try clear p50
                      try clear p6
                      try clear p62
                      try clear p64
                      try clear q1
                      try clear q12
                      try clear q127
                      try clear q5
                      try clear q50
                      try clear q6
                      try clear q62
                      obtain ⟨kq, x105_72, rfl, HA, HJ72, BK122, BK123, HB⟩ := hcut
                      cases kq with
                      | zero => exact absurd HA.out (by simp [echelonref01_Take.j3])
                      | succ kj72 =>
                        have H := HA.out
                        clear HA
                        simp only [echelonref01_Take.j3] at H
                        by_cases c75 : x105_72 = true
                        · subst c75
                          have H1 : (some (0, ([] : List Int), ([] : List (S105)), t142, 13)) = some (r1, r2, r3, r4, r5) := by rw [if_pos rfl] at H; exact H
                          clear H
                          have H := H1
                          clear H1
                          simp only [Option.some.injEq, Prod.mk.injEq] at H
                          obtain ⟨rfl, rfl, rfl, rfl, rfl⟩ := H
                          have hnb76 := NB123_122.out
                          have hnc76 := NB122_123.out
                          have hcz77_0 : wc.cell? ⟨gb123, 0, none⟩ = some (.int .u64 0) := (blk_cell BK123.out 0).trans rfl
                          have hcz77_1 : wc.cell? ⟨gb123, 1, none⟩ = some (.slice none 0 0) := (blk_cell BK123.out 1).trans rfl
                          have hcz77_2 : wc.cell? ⟨gb123, 2, none⟩ = some (.slice none 0 0) := (blk_cell BK123.out 2).trans rfl
                          have hfz77_0 := blk_frozen BK123.out 0
                          have hfz77_1 := blk_frozen BK123.out 1
                          have hfz77_2 := blk_frozen BK123.out 2
                          have hcz78_0 : wc.cell? ⟨gb122, 0, none⟩ = some (.int .u64 0) := (blk_cell BK122.out 0).trans rfl
                          have hcz78_1 : wc.cell? ⟨gb122, 1, none⟩ = some (.slice none 0 0) := (blk_cell BK122.out 1).trans rfl
                          have hcz78_2 : wc.cell? ⟨gb122, 2, none⟩ = some (.slice none 0 0) := (blk_cell BK122.out 2).trans rfl
                          have hfz78_0 := blk_frozen BK122.out 0
                          have hfz78_1 := blk_frozen BK122.out 1
                          have hfz78_2 := blk_frozen BK122.out 2
                          go_wp2
                          refine bodyPost_ret (results_ctt rfl _ _ gb122 105 #[.int .u64 0, .slice none 0 0, .slice none 0 0] (0, 0) _ rfl (by (with_reducible repeat (first | refine blk_drewN ?_ _ | refine blk_drew ?_ | refine blk_alloc ?_ _)); refine blk_put (cs := #[.int .u64 0, .slice none 0 0, .slice none 0 0]) ?_ 2 _ rfl; (with_reducible repeat (first | refine blk_drewN ?_ _ | refine blk_drew ?_ | refine blk_alloc ?_ _)); refine blk_put (cs := #[.int .u64 0, .slice none 0 0, .slice none 0 0]) ?_ 1 _ rfl; (with_reducible repeat (first | refine blk_drewN ?_ _ | refine blk_drew ?_ | refine blk_alloc ?_ _)); refine blk_put (cs := #[.int .u64 0, .slice none 0 0, .slice none 0 0]) ?_ 0 _ rfl; (with_reducible repeat (first | refine blk_drewN ?_ _ | refine blk_drew ?_ | refine blk_alloc ?_ _)); exact BK122.out) Try.underlying105 rfl (by kernel_rfl)) rfl ?_
                          exact ⟨_, _, by first | rfl | (simp [errW_none, errW_some] <;> rfl) | (simp [*, errW_none, errW_some] <;> rfl), by first | exact Kd.R_nil _ _ _ _ _ | exact Kd.N_nil _ _ _ _ _ | exact Kd.V_nil _ _ _ _ _ | exact Kd.Q_nil _ _ _ _ _ | exact Kd.S_nil _ _ _ _ _, by first | exact Kd.R_nil _ _ _ _ _ | exact Kd.N_nil _ _ _ _ _ | exact Kd.V_nil _ _ _ _ _ | exact Kd.Q_nil _ _ _ _ _ | exact Kd.S_nil _ _ _ _ _, by repeat (first | (with_reducible first | exact HB.out | apply below_alloc | apply pw_below_drewN | apply below_drew1 | refine below_set ?_ GE122.out | refine below_set ?_ GE123.out) | exact HB.out)⟩
                        · replace c75 := Bool.eq_false_iff.mpr c75
                          subst c75
                          have H1 : (if 0 < (a0.size : Int) then (if (bt a0 0) = 98 then (if 0 ≤ t142 then (if t142 ≤ (wrap64 (t142 + (wrap64 (t141)))) then (if (wrap64 (t142 + (wrap64 (t141)))) ≤ (l1.length : Int) then (if ([] : List Int).length + ((l1.take ((wrap64 (t142 + (wrap64 (t141)))) : Int).toNat).drop (t142 : Int).toNat).length < 140737488355328 then (some (0, (([] : List Int) ++ ((l1.take ((wrap64 (t142 + (wrap64 (t141)))) : Int).toNat).drop (t142 : Int).toNat)), ([] : List (S105)), wrap64 (t142 + (wrap64 (t141))), 0)) else (none)) else (none)) else (none)) else (none)) else (echelonref01_Take.l1 kj72 a0 l1 t142 t141 0 0 ([] : List (S105)))) else (none)) = some (r1, r2, r3, r4, r5) := by rw [if_neg (show ¬ (false = true) by decide)] at H; exact H
                          clear H
                          have H := H1
                          clear H1
                          by_cases c79 : 0 < (a0.size : Int)
                          · rw [if_pos c79] at H
                            have c79b0 : decide (0 < (a0.size : Int)) = true := decide_eq_true c79
                            have c79b1 : decide (0 < a0.size) = true := decide_eq_true (by omega)
                            clear c79
                            by_cases c81 : (bt a0 0) = 98
                            · rw [if_pos c81] at H
                              have c81b0 : ((bt a0 0) == 98) = true := beq_iff_eq.mpr c81
                              have c81b1 : ((bt a0 0) != 98) = false := bne_eq_false_iff_eq.mpr c81
                              clear c81
                              by_cases c82 : 0 ≤ t142
                              · rw [if_pos c82] at H
                                have c82b0 := eq_true c82
                                have c82b1 : decide (0 ≤ t142) = true := decide_eq_true c82
                                clear c82
                                by_cases c83 : t142 ≤ (wrap64 (t142 + (wrap64 (t141))))
                                · rw [if_pos c83] at H
                                  have c83b0 := eq_true c83
                                  have c83b1 : decide (t142 ≤ (wrap64 (t142 + (wrap64 (t141))))) = true := decide_eq_true c83
                                  by_cases c84 : (wrap64 (t142 + (wrap64 (t141)))) ≤ (l1.length : Int)
                                  · rw [if_pos c84] at H
                                    have c84b0 := eq_true c84
                                    have c84b1 : decide ((wrap64 (t142 + (wrap64 (t141)))) ≤ (l1.length : Int)) = true := decide_eq_true c84
                                    by_cases c85 : ([] : List Int).length + ((l1.take ((wrap64 (t142 + (wrap64 (t141)))) : Int).toNat).drop (t142 : Int).toNat).length < 140737488355328
                                    · rw [if_pos c85] at H
                                      have LMc85 := Aside0.mk c85
                                      clear c85
                                      obtain ⟨y146, hy146⟩ : ∃ y_ : List Int, y_ = (([] : List Int) ++ ((l1.take ((wrap64 (t142 + (wrap64 (t141)))) : Int).toNat).drop (t142 : Int).toNat)) := ⟨_, rfl⟩
                                      replace H : (some (0, y146, ([] : List (S105)), wrap64 (t142 + (wrap64 (t141))), 0)) = some (r1, r2, r3, r4, r5) := by first | (rw [hy146]; with_reducible exact H) | (have H2_ := (Option.bind_some _ _).symm.trans H; rw [hy146]; with_reducible exact H2_) | (have H2_ := (Option.bind_some _ _).symm.trans H; with_reducible exact H2_) | with_reducible exact H | (rw [hy146]; exact H) | exact H
                                      have Ny146 := Aside0.mk hy146
                                      clear hy146
                                      simp only [Option.some.injEq, Prod.mk.injEq] at H
                                      obtain ⟨rfl, rfl, rfl, rfl, rfl⟩ := H
                                      have p80 : 0 ≤ (0 : Int) := (by omega)
                                      have q80 : 0 < a0.size := (by have : (0 : Int) < (a0.size : Int) := of_decide_eq_true (by first | (with_reducible assumption) | assumption); omega)
                                      have hx80 : ∀ h : 0 < a0.size, ((a0[0]'h).toNat : Int) = bt a0 0 := bt_at a0 0
                                      clear p80
                                      have qi80 : (0 < (a0.size : Int)) = True := eq_true (of_decide_eq_true (by first | (with_reducible assumption) | assumption))
                                      replace q80 := eq_true q80
                                      try go_wp2
                                      have n0_ := Aside0.mk (blk_drew BK122.out)
                                      have n1_ := Aside0.mk (blk_drew BK123.out)
                                      have n2_ := Aside0.mk (below_drew1 HB.out)
                                      clear BK122
                                      clear BK123
                                      clear HB
                                      have BK122 := n0_
                                      have BK123 := n1_
                                      have HB := n2_
                                      clear n0_ n1_ n2_
                                      obtain ⟨i087, hi087, _, hsz87, _⟩ := info_parts info5
                                      obtain ⟨A87, hcut87, hA87, hC87⟩ := print_mid_of (P := Try.prog) (Value.int .u8) 0 26 5 .i64 .i64 Try.underlying26 hi087 hsz87 A1 c1 l1 t142 (wrap64 (t142 + (wrap64 (t141)))) (of_decide_eq_true (by first | (with_reducible assumption) | assumption)) (by first | omega | exact of_decide_eq_true (by first | (with_reducible assumption) | assumption)) (of_decide_eq_true (by first | (with_reducible assumption) | assumption)) HC1.out
                                      have HR145 := Aside0.mk (Kd.C_of_reads (h1 := fun _ => rfl) (hA87 _ (Kd.reads_of_C HR1.out)))
                                      have HC145 := Aside0.mk hC87
                                      clear hA87 hC87 hi087 hsz87
                                      refine start_ (n := 12) (S := fun w' => w'.cell? ⟨gb123, 0, none⟩ = some (.int .u64 0) ∧ w'.cell? ⟨gb123, 1, none⟩ = some (.slice none 0 0) ∧ w'.cell? ⟨gb123, 2, none⟩ = some (.slice none 0 0)) (ds := [11]) #[false, false, false, false, false, false, false, false, false, false, false, false] (by kernel_rfl) rfl rfl ⟨(blk_cell BK123.out 0).trans rfl, (blk_cell BK123.out 1).trans rfl, (blk_cell BK123.out 2).trans rfl⟩ (fun hHeld => ?_); refine with_tabW echelonref01_Take.tab26 echelonref01_Take.bits26 (fun HT_ HW_ => ?_)
                                      generalize wc.drew = w86 at BK122 BK123 HB HR145 hHeld ⊢
                                      refine pure_ (i := 0) (N := some 111) (v := ?_) (a' := ?_) #[true, false, false, false, false, false, false, false, false, false, false, false] rfl rfl (any_of HT_.out (by kernel_rfl)) (fun _ _ _ h => h) (Or.inl ⟨by rfl, ?_⟩) ?_ ?_
                                      rotate_left
                                      · intro w'
                                        go_simp
                                        with_reducible rfl
                                      rotate_left
                                      · simp only [Act.put, List.setIfInBounds_toArray, List.set_cons_zero, List.set_cons_succ, i64_w, i32_w]
                                        rfl
                                      refine pure_ (i := 2) (N := some 113) (v := ?_) (a' := ?_) #[true, false, true, false, false, false, false, false, false, false, false, false] rfl rfl (any_of HT_.out (by kernel_rfl)) (fun _ _ _ h => h) (Or.inl ⟨by rfl, ?_⟩) ?_ ?_
                                      rotate_left
                                      · intro w'
                                        go_simp
                                        with_reducible rfl
                                      rotate_left
                                      · simp only [Act.put, List.setIfInBounds_toArray, List.set_cons_zero, List.set_cons_succ, i64_w, i32_w]
                                        rfl
                                      refine pure_ (i := 3) (N := some 114) (v := ?_) (a' := ?_) #[true, false, true, true, false, false, false, false, false, false, false, false] rfl rfl (any_of HT_.out (by kernel_rfl)) (fun _ _ _ h => h) (Or.inl ⟨by rfl, ?_⟩) ?_ ?_
                                      rotate_left
                                      · intro w'
                                        go_simp
                                        with_reducible rfl
                                      rotate_left
                                      · simp only [Act.put, List.setIfInBounds_toArray, List.set_cons_zero, List.set_cons_succ, i64_w, i32_w]
                                        rfl
                                      refine pure_ (i := 4) (N := some 115) (v := ?_) (a' := ?_) #[true, false, true, true, true, false, false, false, false, false, false, false] rfl rfl (any_of HT_.out (by kernel_rfl)) (fun _ _ _ h => h) (Or.inl ⟨by rfl, ?_⟩) ?_ ?_
                                      rotate_left
                                      · intro w'
                                        go_simp
                                        with_reducible rfl
                                      rotate_left
                                      · simp only [Act.put, List.setIfInBounds_toArray, List.set_cons_zero, List.set_cons_succ, i64_w, i32_w]
                                        rfl
                                      refine pure_ (i := 5) (N := some 116) (v := ?_) (a' := ?_) #[true, false, true, true, true, true, false, false, false, false, false, false] rfl rfl (any_of HT_.out (by kernel_rfl)) (fun _ _ _ h => h) (Or.inl ⟨by rfl, ?_⟩) ?_ ?_
                                      rotate_left
                                      · intro w'
                                        go_simp
                                        with_reducible rfl
                                      rotate_left
                                      · simp only [Act.put, List.setIfInBounds_toArray, List.set_cons_zero, List.set_cons_succ, i64_w, i32_w]
                                        rfl
                                      refine pure_ (i := 6) (N := some 117) (v := ?_) (a' := ?_) #[true, false, true, true, true, true, true, false, false, false, false, false] rfl rfl (any_of HT_.out (by kernel_rfl)) (fun _ _ _ h => h) (Or.inl ⟨by rfl, ?_⟩) ?_ ?_
                                      rotate_left
                                      · intro w'
                                        go_simp
                                        with_reducible rfl
                                      rotate_left
                                      · simp only [Act.put, List.setIfInBounds_toArray, List.set_cons_zero, List.set_cons_succ, i64_w, i32_w]
                                        rfl
                                      refine pure_ (i := 7) (N := some 118) (v := ?_) (a' := ?_) #[true, false, true, true, true, true, true, true, false, false, false, false] rfl rfl (any_of HT_.out (by kernel_rfl)) (fun _ _ _ h => h) (Or.inl ⟨by rfl, ?_⟩) ?_ ?_
                                      rotate_left
                                      · intro w'
                                        go_simp
                                        with_reducible rfl
                                      rotate_left
                                      · simp only [Act.put, List.setIfInBounds_toArray, List.set_cons_zero, List.set_cons_succ, i64_w, i32_w]
                                        rfl
                                      refine pure_ (i := 8) (N := some 119) (v := ?_) (a' := ?_) #[true, false, true, true, true, true, true, true, true, false, false, false] rfl rfl (any_of HT_.out (by kernel_rfl)) (fun _ _ _ h => h) (Or.inl ⟨by rfl, ?_⟩) ?_ ?_
                                      rotate_left
                                      · intro w'
                                        go_simp
                                        with_reducible rfl
                                      rotate_left
                                      · simp only [Act.put, List.setIfInBounds_toArray, List.set_cons_zero, List.set_cons_succ, i64_w, i32_w]
                                        rfl
                                      refine take_ (i := 1) (N := some 112) (v := ?_) (a' := ?_) #[true, true, true, true, true, true, true, true, true, false, false, false] rfl rfl (take_ofW HT_.out HW_.out (by kernel_rfl)) (fun _ _ _ h => h) (Or.inl ⟨by rfl, ?_⟩) hHeld ?_ ?_
                                      rotate_left
                                      · rintro w' ⟨s0, s1, s2⟩
                                        go_simp
                                        with_reducible rfl
                                      rotate_left
                                      · simp only [Act.put, List.setIfInBounds_toArray, List.set_cons_zero, List.set_cons_succ, i64_w, i32_w]
                                        rfl
                                      refine one_ (i := 9) (N := some 120) #[true, true, true, true, true, true, true, true, true, true, false, false] rfl rfl (one_of HT_.out (by kernel_rfl)) (by decide) (fun K hK => ?_)
                                      refine Kd.R_append_rows_step (Kd.int .u8) (w0 := w) w.heap.size (by rfl) (.tmp 112) (.tmp 119) 26 5 (.int .u8 0) 1 rfl Try.underlying26 info5 rfl (by decide) (by omega) (.slice none 0 0) ([] : List Int) ((l1.take ((wrap64 (t142 + (wrap64 (t141)))) : Int).toNat).drop (t142 : Int).toNat) _ _ _ (fun _ => True) (fun _ => False) rfl rfl ?aO ?aR (fun _ _ h => h) (fun _ h => h.elim) ?aF ?aB ?aS ?aL ?_
                                      (case aR => first | (rw [← show ((l1.take ((wrap64 (t142 + (wrap64 (t141)))) : Int).toNat).drop (t142 : Int).toNat).length = ((wrap64 (t142 + (wrap64 (t141)))).toNat - t142.toNat) from (by rw [List.length_drop, List.length_take]; have h_ : ((wrap64 (t142 + (wrap64 (t141)))) : Int) ≤ (l1.length : Int) := of_decide_eq_true (by first | (with_reducible assumption) | assumption); omega)]; repeat (first | exact (Kd.C_below HR145.out HB.out) | (with_reducible refine Kd.C_alloc ?_ _) | (with_reducible refine Kd.C_drewN ?_ _) | (with_reducible refine Kd.C_drew ?_))) | (repeat (first | exact (Kd.C_below HR145.out HB.out) | (with_reducible refine Kd.C_alloc ?_ _) | (with_reducible refine Kd.C_drewN ?_ _) | (with_reducible refine Kd.C_drew ?_))))
                                      (case aB => exact (by repeat (first | (with_reducible first | exact HB.out | apply below_alloc | apply pw_below_drewN | apply below_drew1 | refine below_set ?_ GE122.out | refine below_set ?_ GE123.out) | exact HB.out)))
                                      (case aF => exact (fun _ _ => trivial))
                                      (case aO => exact ((Kd.R_nil _ _ _ _ (fun _ => True))))
                                      (case aS => exact (below_size (by repeat (first | (with_reducible first | exact HB.out | apply below_alloc | apply pw_below_drewN | apply below_drew1 | refine below_set ?_ GE122.out | refine below_set ?_ GE123.out) | exact HB.out))))
                                      (case aL => have := LMc85.out; have hlx_ := (show ((l1.take ((wrap64 (t142 + (wrap64 (t141)))) : Int).toNat).drop (t142 : Int).toNat).length = ((wrap64 (t142 + (wrap64 (t141)))).toNat - t142.toNat) from (by rw [List.length_drop, List.length_take]; have h_ : ((wrap64 (t142 + (wrap64 (t141)))) : Int) ≤ (l1.length : Int) := of_decide_eq_true (by first | (with_reducible assumption) | assumption); omega)); omega)
                                      intro v147 w88 ho hb hg hat
                                      rw [← Ny146.out] at ho
                                      have n0_ := Aside0.mk (blk_grown (g := gb122) (o := .cells #[.int .u64 0, .slice none 0 0, .slice none 0 0] 105 (0, 0)) (by (with_reducible repeat (first | refine blk_drewN ?_ _ | refine blk_drew ?_ | refine blk_alloc ?_ _)); exact BK122.out) hg (by simp [Value.ownBlock]))
                                      have n1_ := Aside0.mk (blk_grown (g := gb123) (o := .cells #[.int .u64 0, .slice none 0 0, .slice none 0 0] 105 (0, 0)) (by (with_reducible repeat (first | refine blk_drewN ?_ _ | refine blk_drew ?_ | refine blk_alloc ?_ _)); exact BK123.out) hg (by simp [Value.ownBlock]))
                                      have n2_ := Aside0.mk (hb)
                                      have n3_ := Aside0.mk (ho)
                                      clear BK122
                                      clear BK123
                                      clear HB
                                      have BK122 := n0_
                                      have BK123 := n1_
                                      have HB := n2_
                                      have HO148 := n3_
                                      clear n0_ n1_ n2_ n3_
                                      clear ho hb hg hat
                                      obtain ⟨Ao89, co89, eo89⟩ := Kd.R_slice HO148.out
                                      (first | subst eo89 | (injection eo89 with f1_ f2_ f3_; have f4_ := f1_.symm; have f5_ := f3_.symm; clear f1_ f2_ f3_; subst f4_; subst f5_))
                                      refine hK.out _ _ ⟨(blk_cell BK123.out 0).trans rfl, (blk_cell BK123.out 1).trans rfl, (blk_cell BK123.out 2).trans rfl⟩ (fun hHeld => ?_)
                                      clear hK K
                                      refine norm_ (a' := ?_) ?_ ?_
                                      rotate_left
                                      · show Act.put _ (some 120) _ = _
                                        simp only [Act.put, List.setIfInBounds_toArray, List.set_cons_zero, List.set_cons_succ, i64_w, i32_w]
                                        rfl
                                      refine pure_ (i := 10) (N := some 121) (v := ?_) (a' := ?_) #[true, true, true, true, true, true, true, true, true, true, true, false] rfl rfl (any_of HT_.out (by kernel_rfl)) (fun _ _ _ h => h) (Or.inl ⟨by rfl, ?_⟩) ?_ ?_
                                      rotate_left
                                      · intro w'
                                        go_simp
                                        with_reducible rfl
                                      rotate_left
                                      · simp only [Act.put, List.setIfInBounds_toArray, List.set_cons_zero, List.set_cons_succ, i64_w, i32_w]
                                        rfl
                                      refine last_ (i := 11) (N := none) #[true, true, true, true, true, true, true, true, true, true, true, true] rfl rfl (one_of HT_.out (by kernel_rfl)) (by decide) (fun K hK => ?_)
                                      have hs90 : w88.cell? ⟨gb123, 1, none⟩ = some (.slice none 0 0) := (blk_cell BK123.out 1).trans rfl
                                      have hfs90 := blk_frozen BK123.out 1
                                      have hns90_0 := NB122_123.out
                                      have hms90_0 := NB123_122.out
                                      refine skip_ (w1 := ?_) (by rfl) rfl ?_ ?_
                                      rotate_left
                                      · go_simp
                                        rfl
                                      refine hK.out _ _ ?_
                                      clear hK K
                                      refine done_ (done_of HT_.out (by kernel_rfl)) ?_
                                      have hnb91 := NB123_122.out
                                      have hnc91 := NB122_123.out
                                      have hcz92_0 : w88.cell? ⟨gb123, 0, none⟩ = some (.int .u64 0) := (blk_cell BK123.out 0).trans rfl
                                      have hcz92_1 : w88.cell? ⟨gb123, 1, none⟩ = some (.slice none 0 0) := (blk_cell BK123.out 1).trans rfl
                                      have hcz92_2 : w88.cell? ⟨gb123, 2, none⟩ = some (.slice none 0 0) := (blk_cell BK123.out 2).trans rfl
                                      have hfz92_0 := blk_frozen BK123.out 0
                                      have hfz92_1 := blk_frozen BK123.out 1
                                      have hfz92_2 := blk_frozen BK123.out 2
                                      have hcz93_0 : w88.cell? ⟨gb122, 0, none⟩ = some (.int .u64 0) := (blk_cell BK122.out 0).trans rfl
                                      have hcz93_1 : w88.cell? ⟨gb122, 1, none⟩ = some (.slice none 0 0) := (blk_cell BK122.out 1).trans rfl
                                      have hcz93_2 : w88.cell? ⟨gb122, 2, none⟩ = some (.slice none 0 0) := (blk_cell BK122.out 2).trans rfl
                                      have hfz93_0 := blk_frozen BK122.out 0
                                      have hfz93_1 := blk_frozen BK122.out 1
                                      have hfz93_2 := blk_frozen BK122.out 2
                                      try go_wp2
                                      refine bodyPost_ret (results_ctt rfl _ _ gb122 105 #[.int .u64 0, .slice Ao89 y146.length co89, .slice none 0 0] (0, 0) _ rfl (by (with_reducible repeat (first | refine blk_drewN ?_ _ | refine blk_drew ?_ | refine blk_alloc ?_ _)); refine blk_put (cs := #[.int .u64 0, .slice Ao89 y146.length co89, .slice none 0 0]) ?_ 2 _ rfl; (with_reducible repeat (first | refine blk_drewN ?_ _ | refine blk_drew ?_ | refine blk_alloc ?_ _)); refine blk_put (cs := #[.int .u64 0, .slice none 0 0, .slice none 0 0]) ?_ 1 _ rfl; (with_reducible repeat (first | refine blk_drewN ?_ _ | refine blk_drew ?_ | refine blk_alloc ?_ _)); refine blk_put (cs := #[.int .u64 0, .slice none 0 0, .slice none 0 0]) ?_ 0 _ rfl; (with_reducible repeat (first | refine blk_drewN ?_ _ | refine blk_drew ?_ | refine blk_alloc ?_ _)); refine blk_far ?_ NB122_123.out _; (with_reducible repeat (first | refine blk_drewN ?_ _ | refine blk_drew ?_ | refine blk_alloc ?_ _)); exact BK122.out) Try.underlying105 rfl (by kernel_rfl)) rfl ?_
                                      exact ⟨_, _, by first | rfl | (simp [errW_none, errW_some] <;> rfl) | (simp [*, errW_none, errW_some] <;> rfl), by (with_reducible repeat (first | apply Kd.R_alloc | apply Kd.R_drewN | apply Kd.R_drew)); exact Kd.R_mono (Kd.R_far (p := ⟨gb122, 2, none⟩) (Kd.R_far (p := ⟨gb122, 1, none⟩) (Kd.R_far (p := ⟨gb122, 0, none⟩) (Kd.R_far (p := ⟨gb123, 1, none⟩) (Kd.R_types (Kd.R_types HO148.out BK123.out (by decide)) BK122.out (by decide)) (fun _ hk => hk.1.2) (.slice Ao89 y146.length co89)) (fun _ hk => hk.2) (.int .u64 0)) (fun _ hk => hk.2) (.slice Ao89 y146.length co89)) (fun _ hk => hk.2) (.slice none 0 0)) (fun _ hk => trivial), by first | exact Kd.R_nil _ _ _ _ _ | exact Kd.N_nil _ _ _ _ _ | exact Kd.V_nil _ _ _ _ _ | exact Kd.Q_nil _ _ _ _ _ | exact Kd.S_nil _ _ _ _ _, by repeat (first | (with_reducible first | exact HB.out | apply below_alloc | apply pw_below_drewN | apply below_drew1 | refine below_set ?_ GE122.out | refine below_set ?_ GE123.out) | exact HB.out)⟩
                                    · rw [if_neg c85] at H
                                      exact absurd H (by simp)
                                  · rw [if_neg c84] at H
                                    exact absurd H (by simp)
                                · rw [if_neg c83] at H
                                  exact absurd H (by simp)
                              · rw [if_neg c82] at H
                                exact absurd H (by simp)
                            · rw [if_neg c81] at H
                              have c81b0 : ((bt a0 0) == 98) = false := beq_eq_false_iff_ne.mpr c81
                              have c81b1 : ((bt a0 0) != 98) = true := bne_iff_ne.mpr c81
                              have H' := Aside0.mk H
                              clear H
                              have p80 : 0 ≤ (0 : Int) := (by omega)
                              have q80 : 0 < a0.size := (by have : (0 : Int) < (a0.size : Int) := of_decide_eq_true (by first | (with_reducible assumption) | assumption); omega)
                              have hx80 : ∀ h : 0 < a0.size, ((a0[0]'h).toNat : Int) = bt a0 0 := bt_at a0 0
                              clear p80
                              have qi80 : (0 < (a0.size : Int)) = True := eq_true (of_decide_eq_true (by first | (with_reducible assumption) | assumption))
                              replace q80 := eq_true q80
                              go_wp2
                              go_loopg [2, 19] kj72 (fun kq v2 v19 w' => ∃ (x2_4 : Int) (x19_4 : Int) (x123000_4 : Int) (x124002_4 : List (S105)) (u124002 : Value), v2 = .int .i64 x2_4 ∧ v19 = .int .i64 x19_4 ∧ Aside0 (echelonref01_Take.l1 kq a0 l1 x2_4 t141 x19_4 0 x124002_4 = some (r1, r2, r3, r4, r5)) ∧ Aside0 (kq ≤ kj72) ∧ Aside0 (Kd.R k105 105 w' w.heap.size (fun k_ => k_ ≠ gb122 ∧ k_ ≠ gb123) u124002 x124002_4) ∧ Aside0 (w'.heap[gb122]? = some (.cells #[.int .u64 x123000_4, (.slice none 0 0), (.slice none 0 0)] 105 (0, 0))) ∧ Aside0 (w'.heap[gb123]? = some (.cells #[.int .u64 0, (.slice none 0 0), u124002] 105 (0, 0))) ∧ Aside0 (Below w.heap.size w w'))
                              case atStart => exact ⟨(t142), (0), (0), (([] : List (S105))), (.slice none 0 0), (by first | rfl | (simp; done) | (simp [*]; done)), (by first | rfl | (simp; done) | (simp [*]; done)), H', ⟨Nat.le_refl _⟩, ⟨by first | exact Kd.R_nil _ _ _ _ _ | exact Kd.N_nil _ _ _ _ _ | exact Kd.V_nil _ _ _ _ _ | exact Kd.Q_nil _ _ _ _ _ | exact Kd.S_nil _ _ _ _ _⟩, ⟨by (with_reducible repeat (first | refine blk_drewN ?_ _ | refine blk_drew ?_ | refine blk_alloc ?_ _)); exact BK122.out⟩, ⟨by (with_reducible repeat (first | refine blk_drewN ?_ _ | refine blk_drew ?_ | refine blk_alloc ?_ _)); exact BK123.out⟩, ⟨by repeat (first | (with_reducible first | exact HB.out | apply below_alloc | apply pw_below_drewN | apply below_drew1 | refine below_set ?_ GE122.out | refine below_set ?_ GE123.out) | exact HB.out)⟩⟩
                              case round =>
                                clear H'
                                try clear c1
                                try clear p1
                                try clear q1
                                try clear hx1
                                try clear c2
                                try clear p2
                                try clear c3
                                try clear c4
                                try clear c4b0
                                try clear c4b1
                                try clear c5
                                try clear p5
                                try clear q5
                                try clear hx5
                                try clear qi5
                                try clear c6
                                try clear c6b0
                                try clear c6b1
                                try clear p6
                                try clear q6
                                try clear hx6
                                try clear qi6
                                try clear c7
                                try clear c8
                                try clear p8
                                try clear q8
                                try clear hx8
                                try clear qi8
                                try clear c9
                                try clear c10
                                try clear p12
                                try clear q12
                                try clear hx12
                                try clear c13
                                try clear c13b0
                                try clear c14
                                try clear c14b0
                                try clear c16
                                try clear c16b0
                                try clear c16b1
                                try clear c17
                                try clear c21
                                try clear c22
                                try clear c27
                                try clear c36
                                try clear c37
                                try clear c41
                                try clear c44
                                try clear c49
                                try clear c49b0
                                try clear c49b1
                                try clear p50
                                try clear q50
                                try clear hx50
                                try clear qi50
                                try clear c51
                                try clear c51b0
                                try clear c51b1
                                try clear c54
                                try clear c60
                                try clear c61
                                try clear p62
                                try clear q62
                                try clear hx62
                                try clear qi62
                                try clear c63
                                try clear c63b0
                                try clear c63b1
                                try clear c64
                                try clear c64b0
                                try clear c64b1
                                try clear p64
                                try clear c68
                                try clear c69
                                try clear c70
                                try clear c74
                                try clear c74b0
                                try clear c75
                                try clear c76
                                try clear c79
                                try clear c79b0
                                try clear c79b1
                                try clear p80
                                try clear q80
                                try clear hx80
                                try clear qi80
                                try clear c81
                                try clear c81b0
                                try clear c81b1
                                try clear c82
                                try clear c82b0
                                try clear c82b1
                                try clear c83
                                try clear c83b0
                                try clear c83b1
                                try clear c84
                                try clear c84b0
                                try clear c84b1
                                try clear c85
                                try clear c91
                                try clear hcz11_0
                                try clear hcz11_1
                                try clear hcz11_2
                                try clear hcz23_0
                                try clear hcz23_1
                                try clear hcz23_2
                                try clear hcz28_0
                                try clear hcz28_1
                                try clear hcz28_2
                                try clear hcz29_0
                                try clear hcz29_1
                                try clear hcz29_2
                                try clear hcz32_0
                                try clear hcz32_1
                                try clear hcz32_2
                                try clear hcz38_0
                                try clear hcz38_1
                                try clear hcz38_2
                                try clear hcz42_0
                                try clear hcz42_1
                                try clear hcz42_2
                                try clear hcz45_0
                                try clear hcz45_1
                                try clear hcz45_2
                                try clear hcz46_0
                                try clear hcz46_1
                                try clear hcz46_2
                                try clear hcz55_0
                                try clear hcz55_1
                                try clear hcz55_2
                                try clear hcz56_0
                                try clear hcz56_1
                                try clear hcz56_2
                                try clear hcz61_0
                                try clear hcz61_1
                                try clear hcz61_2
                                try clear hcz71_0
                                try clear hcz71_1
                                try clear hcz71_2
                                try clear hcz72_0
                                try clear hcz72_1
                                try clear hcz72_2
                                try clear hcz77_0
                                try clear hcz77_1
                                try clear hcz77_2
                                try clear hcz78_0
                                try clear hcz78_1
                                try clear hcz78_2
                                try clear hcz92_0
                                try clear hcz92_1
                                try clear hcz92_2
                                try clear hcz93_0
                                try clear hcz93_1
                                try clear hcz93_2
                                try clear hfz11_0
                                try clear hfz11_1
                                try clear hfz11_2
                                try clear hfz23_0
                                try clear hfz23_1
                                try clear hfz23_2
                                try clear hfz28_0
                                try clear hfz28_1
                                try clear hfz28_2
                                try clear hfz29_0
                                try clear hfz29_1
                                try clear hfz29_2
                                try clear hfz32_0
                                try clear hfz32_1
                                try clear hfz32_2
                                try clear hfz38_0
                                try clear hfz38_1
                                try clear hfz38_2
                                try clear hfz42_0
                                try clear hfz42_1
                                try clear hfz42_2
                                try clear hfz45_0
                                try clear hfz45_1
                                try clear hfz45_2
                                try clear hfz46_0
                                try clear hfz46_1
                                try clear hfz46_2
                                try clear hfz55_0
                                try clear hfz55_1
                                try clear hfz55_2
                                try clear hfz56_0
                                try clear hfz56_1
                                try clear hfz56_2
                                try clear hfz61_0
                                try clear hfz61_1
                                try clear hfz61_2
                                try clear hfz71_0
                                try clear hfz71_1
                                try clear hfz71_2
                                try clear hfz72_0
                                try clear hfz72_1
                                try clear hfz72_2
                                try clear hfz77_0
                                try clear hfz77_1
                                try clear hfz77_2
                                try clear hfz78_0
                                try clear hfz78_1
                                try clear hfz78_2
                                try clear hfz92_0
                                try clear hfz92_1
                                try clear hfz92_2
                                try clear hfz93_0
                                try clear hfz93_1
                                try clear hfz93_2
                                try clear hx127_0
                                try clear p1
                                try clear p12
                                try clear p127
                                try clear p2
                                try clear p5
                                try clear p50
                                try clear p6
                                try clear p62
                                try clear p64
                                try clear p80
                                try clear q1
                                try clear q12
                                try clear q127
                                try clear q5
                                try clear q50
                                try clear q6
                                try clear q62
                                try clear q80
                                obtain ⟨x2_4, x19_4, x123000_4, x124002_4, u124002, rfl, rfl, HA, HK4, HO_124002, BK122, BK123, HB⟩ := hrel
                                cases gk with
                                | zero => exact absurd HA.out (by simp [echelonref01_Take.l1])
                                | succ k4 =>
                                  have H := HA.out
                                  clear HA
                                  simp only [echelonref01_Take.l1] at H
                                  by_cases c94 : x19_4 < (wrap64 (t141))
                                  · rw [if_pos c94] at H
                                    have c94b0 : decide (x19_4 < (wrap64 (t141))) = true := decide_eq_true c94
                                    clear c94
                                    by_cases c95 : 1 ≤ (a0.size : Int)
                                    · rw [if_pos c95] at H
                                      have c95b0 := eq_true c95
                                      have c95b1 : decide (1 ≤ (a0.size : Int)) = true := decide_eq_true c95
                                      clear c95
                                      replace H := Option.bind_eq_some_iff.mp H
                                      obtain ⟨⟨t149, t150, t153, t156, t157⟩, A960, H⟩ := H
                                      replace H : (if t157 = 0 then (if x124002_4.length < 2513169434916 then (echelonref01_Take.l1 k4 a0 l1 t156 t141 (wrap64 (x19_4 + 1)) 0 (x124002_4 ++ [(⟨t149, t150, t153⟩ : S105)])) else (none)) else (some (0, ([] : List Int), ([] : List (S105)), x2_4, t157))) = some (r1, r2, r3, r4, r5) := H
                                      have A96 := Aside0.mk A960
                                      clear A960
                                      by_cases c97 : t157 = 0
                                      · rw [if_pos c97] at H
                                        have c97b0 : (t157 == 0) = true := beq_iff_eq.mpr c97
                                        have c97b1 : (t157 != 0) = false := bne_eq_false_iff_eq.mpr c97
                                        clear c97
                                        by_cases c98 : x124002_4.length < 2513169434916
                                        · rw [if_pos c98] at H
                                          have LMc98 := Aside0.mk c98
                                          clear c98
                                          obtain ⟨y159, hy159⟩ : ∃ y_ : List (S105), y_ = (x124002_4 ++ [(⟨t149, t150, t153⟩ : S105)]) := ⟨_, rfl⟩
                                          replace H : (echelonref01_Take.l1 k4 a0 l1 t156 t141 (wrap64 (x19_4 + 1)) 0 y159) = some (r1, r2, r3, r4, r5) := by first | (rw [hy159]; with_reducible exact H) | (have H2_ := (Option.bind_some _ _).symm.trans H; rw [hy159]; with_reducible exact H2_) | (have H2_ := (Option.bind_some _ _).symm.trans H; with_reducible exact H2_) | with_reducible exact H | (rw [hy159]; exact H) | exact H
                                          have Ny159 := Aside0.mk hy159
                                          clear hy159
                                          have H' := Aside0.mk H
                                          clear H
                                          go_wp2_with (first | ((with_reducible refine gate_callee (f := 61) rfl ?_); refine goesL_ (some 138) rfl rfl Try.func61 (by kernel_rfl) rfl #[.string (a0.extract 1 a0.size), .slice A1 l1.length c1, .int .i64 x2_4] rfl (by (try simp only [List.map_toArray, List.map_cons, List.map_nil]); first | done | rfl | (simp only [List.length_drop, List.length_take]; rfl)) ?_; (with_reducible refine (ih k4 (by have := HJ56.out; have := HJ66.out; have := HJ72.out; have := HK4.out; omega) (a0.extract 1 a0.size) _ _ l1 x2_4 t149 t150 t153 t156 t157 _ ?side1 ?side2 A96.out).mono ?_); (case side1 => repeat (first | exact (Kd.C_below HR1.out HB.out) | (with_reducible refine Kd.C_alloc ?_ _) | (with_reducible refine Kd.C_drewN ?_ _) | (with_reducible refine Kd.C_drew ?_))); (case side2 => exact HC1.out); rintro e w99 ⟨v151, v154, rfl, ho0, ho1, hb⟩; refine ⟨_, rfl, ?_⟩; have n0_ := Aside0.mk (Kd.R_mono (Kd.R_told (Kd.R_told (Kd.R_old (by (with_reducible repeat (first | apply Kd.R_alloc | apply Kd.R_drewN | apply Kd.R_drew)); exact HO_124002.out) hb) (Kd.R_base ho0)) (Kd.R_base ho1)) (fun _ h_ => h_.1)); have n1_ := Aside0.mk (Kd.R_lower ho0 (below_size (by repeat (first | (with_reducible first | exact HB.out | apply below_alloc | apply pw_below_drewN | apply below_drew1 | refine below_set ?_ GE122.out | refine below_set ?_ GE123.out) | exact HB.out)))); have n2_ := Aside0.mk (Kd.R_lower (Kd.R_newB (Kd.R_newB (Kd.R_new' ho1 (Kd.R_lt (by (with_reducible repeat (first | apply Kd.R_alloc | apply Kd.R_drewN | apply Kd.R_drew)); exact HO_124002.out))) (g := gb122) (o := .cells #[.int .u64 x123000_4, .slice none 0 0, .slice none 0 0] 105 (0, 0)) (by (with_reducible repeat (first | refine blk_drewN ?_ _ | refine blk_drew ?_ | refine blk_alloc ?_ _)); exact BK122.out)) (g := gb123) (o := .cells #[.int .u64 0, .slice none 0 0, u124002] 105 (0, 0)) (by (with_reducible repeat (first | refine blk_drewN ?_ _ | refine blk_drew ?_ | refine blk_alloc ?_ _)); exact BK123.out)) (below_size (by repeat (first | (with_reducible first | exact HB.out | apply below_alloc | apply pw_below_drewN | apply below_drew1 | refine below_set ?_ GE122.out | refine below_set ?_ GE123.out) | exact HB.out)))); have n3_ := Aside0.mk (blk_below (g := gb122) (o := .cells #[.int .u64 x123000_4, .slice none 0 0, .slice none 0 0] 105 (0, 0)) (by (with_reducible repeat (first | refine blk_drewN ?_ _ | refine blk_drew ?_ | refine blk_alloc ?_ _)); exact BK122.out) hb); have n4_ := Aside0.mk (blk_below (g := gb123) (o := .cells #[.int .u64 0, .slice none 0 0, u124002] 105 (0, 0)) (by (with_reducible repeat (first | refine blk_drewN ?_ _ | refine blk_drew ?_ | refine blk_alloc ?_ _)); exact BK123.out) hb); have n5_ := Aside0.mk (below_step (by repeat (first | (with_reducible first | exact HB.out | apply below_alloc | apply pw_below_drewN | apply below_drew1 | refine below_set ?_ GE122.out | refine below_set ?_ GE123.out) | exact HB.out)) hb); clear HO_124002; clear BK122; clear BK123; clear HB; have HO_124002 := n0_; have HO152 := n1_; have HO155 := n2_; have BK122 := n3_; have BK123 := n4_; have HB := n5_; clear n0_ n1_ n2_ n3_ n4_ n5_; (try clear hb); (try clear hb2); (try clear hk); (try clear hi); (try clear ho0); (try clear ho1)) | ((with_reducible refine gate_dst (N := 20) rfl ?_); (try (refine gate_guard (by rfl) ?_; dsimp only)); refine box_event ?hg (N := 20) ?hd (cs := #[.int .u64 0, .slice none 0 0, .slice none 0 0]) (t := 105) ?hr ?_; (case hd => rfl); (case hg => rfl); (case hr => first | (go_simp; done) | (go_simp; rfl)); intro gb158 hg w100 hbox hb; have n0_ := Aside0.mk (Kd.R_below (Kd.R_elderB (by (with_reducible repeat (first | apply Kd.R_alloc | apply Kd.R_drewN | apply Kd.R_drew)); exact HO_124002.out) gb158 (Nat.le_of_eq hg.symm)) hb); have n1_ := Aside0.mk (Kd.R_below (by (with_reducible repeat (first | apply Kd.R_alloc | apply Kd.R_drewN | apply Kd.R_drew)); exact HO152.out) hb); have n2_ := Aside0.mk (Kd.R_below (Kd.R_elderB (by (with_reducible repeat (first | apply Kd.R_alloc | apply Kd.R_drewN | apply Kd.R_drew)); exact HO155.out) gb158 (Nat.le_of_eq hg.symm)) hb); have n3_ := Aside0.mk (blk_below (g := gb122) (o := .cells #[.int .u64 x123000_4, .slice none 0 0, .slice none 0 0] 105 (0, 0)) (by (with_reducible repeat (first | refine blk_drewN ?_ _ | refine blk_drew ?_ | refine blk_alloc ?_ _)); exact BK122.out) hb); have n4_ := Aside0.mk (blk_below (g := gb123) (o := .cells #[.int .u64 0, .slice none 0 0, u124002] 105 (0, 0)) (by (with_reducible repeat (first | refine blk_drewN ?_ _ | refine blk_drew ?_ | refine blk_alloc ?_ _)); exact BK123.out) hb); have n5_ := Aside0.mk (below_step (by repeat (first | (with_reducible first | exact HB.out | apply below_alloc | apply pw_below_drewN | apply below_drew1 | refine below_set ?_ GE122.out | refine below_set ?_ GE123.out) | exact HB.out)) hb); have n6_ := Aside0.mk (hbox); have n7_ := Aside0.mk ((by rw [hg]; exact (below_size (by repeat (first | (with_reducible first | exact HB.out | apply below_alloc | apply pw_below_drewN | apply below_drew1 | refine below_set ?_ GE122.out | refine below_set ?_ GE123.out) | exact HB.out))) : w.heap.size ≤ gb158)); have n8_ := Aside0.mk ((by rw [hg]; exact (below_size (by repeat (first | (with_reducible first | exact HB.out | apply below_alloc | apply pw_below_drewN | apply below_drew1 | refine below_set ?_ GE122.out | refine below_set ?_ GE123.out) | exact HB.out))) : w.heap.size ≤ gb158)); have n9_ := Aside0.mk ((by rw [hg]; exact Nat.ne_of_lt (blk_lt (g := gb122) (o := .cells #[.int .u64 x123000_4, .slice none 0 0, .slice none 0 0] 105 (0, 0)) (by (with_reducible repeat (first | refine blk_drewN ?_ _ | refine blk_drew ?_ | refine blk_alloc ?_ _)); exact BK122.out)) : gb122 ≠ gb158)); have n10_ := Aside0.mk ((by rw [hg]; exact Nat.ne_of_gt (blk_lt (g := gb122) (o := .cells #[.int .u64 x123000_4, .slice none 0 0, .slice none 0 0] 105 (0, 0)) (by (with_reducible repeat (first | refine blk_drewN ?_ _ | refine blk_drew ?_ | refine blk_alloc ?_ _)); exact BK122.out)) : gb158 ≠ gb122)); have n11_ := Aside0.mk ((by rw [hg]; exact Nat.ne_of_lt (blk_lt (g := gb123) (o := .cells #[.int .u64 0, .slice none 0 0, u124002] 105 (0, 0)) (by (with_reducible repeat (first | refine blk_drewN ?_ _ | refine blk_drew ?_ | refine blk_alloc ?_ _)); exact BK123.out)) : gb123 ≠ gb158)); have n12_ := Aside0.mk ((by rw [hg]; exact Nat.ne_of_gt (blk_lt (g := gb123) (o := .cells #[.int .u64 0, .slice none 0 0, u124002] 105 (0, 0)) (by (with_reducible repeat (first | refine blk_drewN ?_ _ | refine blk_drew ?_ | refine blk_alloc ?_ _)); exact BK123.out)) : gb158 ≠ gb123)); clear HO_124002; clear HO152; clear HO155; clear BK122; clear BK123; clear HB; have HO_124002 := n0_; have HO152 := n1_; have HO155 := n2_; have BK122 := n3_; have BK123 := n4_; have HB := n5_; have BK158 := n6_; have GW158 := n7_; have GE158 := n8_; have NB122_158 := n9_; have NB158_122 := n10_; have NB123_158 := n11_; have NB158_123 := n12_; clear n0_ n1_ n2_ n3_ n4_ n5_ n6_ n7_ n8_ n9_ n10_ n11_ n12_; clear hb hbox hg; have hnb101 := NB158_122.out; have hnc101 := NB122_158.out; have hnb102 := NB158_123.out; have hnc102 := NB123_158.out; have hcz103_0 : w100.cell? ⟨gb158, 0, none⟩ = some (.int .u64 0) := (blk_cell BK158.out 0).trans rfl; have hcz103_1 : w100.cell? ⟨gb158, 1, none⟩ = some (.slice none 0 0) := (blk_cell BK158.out 1).trans rfl; have hcz103_2 : w100.cell? ⟨gb158, 2, none⟩ = some (.slice none 0 0) := (blk_cell BK158.out 2).trans rfl; have hfz103_0 := blk_frozen BK158.out 0; have hfz103_1 := blk_frozen BK158.out 1; have hfz103_2 := blk_frozen BK158.out 2; obtain ⟨Ao104, co104, eo104⟩ := Kd.R_slice HO152.out; subst eo104; obtain ⟨Ao105, co105, eo105⟩ := Kd.R_slice HO155.out; subst eo105) | ((with_reducible refine gate_store (t := 105) (p := 20) rfl ?_); refine store_event (t := 105) (p := 20) (v := ?vo_w106) (w1 := (((w100.setCell ⟨gb158, 0, none⟩ (.int .u64 t149)).setCell ⟨gb158, 1, none⟩ (.slice Ao104 t150.length co104)).setCell ⟨gb158, 2, none⟩ (.slice Ao105 t153.length co105))) ?hg ?ho ?hn ?hr ?_; (case ho => rfl); (case hg => rfl); (case hn => rfl); (case hr => first | (go_simp; done) | (go_simp; rfl)); intro w106 hw; have n0_ : Aside0 (Kd.R k105 105 w106 w.heap.size (fun k_ => some k_ ≠ (.slice Ao104 t150.length co104 : Value).ownBlock ∧ some k_ ≠ (.slice Ao105 t153.length co105 : Value).ownBlock ∧ k_ ≠ gb122 ∧ k_ ≠ gb123 ∧ k_ ≠ gb158) u124002 x124002_4) := ⟨(by rw [hw]; exact (by (with_reducible repeat (first | apply Kd.R_alloc | apply Kd.R_drewN | apply Kd.R_drew)); exact Kd.R_mono (Kd.R_far (p := ⟨gb158, 2, none⟩) (Kd.R_far (p := ⟨gb158, 1, none⟩) (Kd.R_far (p := ⟨gb158, 0, none⟩) (Kd.R_mono HO_124002.out (fun k_ hk => (⟨hk, hk.2⟩ : _ ∧ k_ ≠ gb158))) (fun _ hk => hk.2) (.int .u64 t149)) (fun _ hk => hk.2) (.slice Ao104 t150.length co104)) (fun _ hk => hk.2) (.slice Ao105 t153.length co105)) (fun _ hk => ⟨hk.1.1.1.2, ⟨hk.1.1.2, ⟨hk.1.1.1.1.1, ⟨hk.1.1.1.1.2, hk.1.2⟩⟩⟩⟩)))⟩; have n1_ : Aside0 (Kd.R (Kd.int .u8) 5 w106 w.heap.size (fun _ => True) (.slice Ao104 t150.length co104) t150) := ⟨(by rw [hw]; exact (by (with_reducible repeat (first | apply Kd.R_alloc | apply Kd.R_drewN | apply Kd.R_drew)); exact Kd.R_mono (Kd.R_far (p := ⟨gb158, 2, none⟩) (Kd.R_far (p := ⟨gb158, 1, none⟩) (Kd.R_far (p := ⟨gb158, 0, none⟩) (Kd.R_types HO152.out BK158.out (by decide)) (fun _ hk => hk.2) (.int .u64 t149)) (fun _ hk => hk.2) (.slice Ao104 t150.length co104)) (fun _ hk => hk.2) (.slice Ao105 t153.length co105)) (fun _ hk => trivial)))⟩; have n2_ : Aside0 (Kd.R k105 105 w106 w.heap.size (fun k_ => some k_ ≠ (u124002 : Value).ownBlock ∧ some k_ ≠ (.slice Ao104 t150.length co104 : Value).ownBlock ∧ k_ ≠ gb122 ∧ k_ ≠ gb123 ∧ k_ ≠ gb158) (.slice Ao105 t153.length co105) t153) := ⟨(by rw [hw]; exact (by (with_reducible repeat (first | apply Kd.R_alloc | apply Kd.R_drewN | apply Kd.R_drew)); exact Kd.R_mono (Kd.R_far (p := ⟨gb158, 2, none⟩) (Kd.R_far (p := ⟨gb158, 1, none⟩) (Kd.R_far (p := ⟨gb158, 0, none⟩) (Kd.R_mono HO155.out (fun k_ hk => (⟨hk, hk.2⟩ : _ ∧ k_ ≠ gb158))) (fun _ hk => hk.2) (.int .u64 t149)) (fun _ hk => hk.2) (.slice Ao104 t150.length co104)) (fun _ hk => hk.2) (.slice Ao105 t153.length co105)) (fun _ hk => ⟨hk.1.1.1.1.2, ⟨hk.1.1.1.1.1, ⟨hk.1.1.1.2, ⟨hk.1.1.2, hk.1.2⟩⟩⟩⟩)))⟩; have n3_ : Aside0 (w106.heap[gb122]? = some (.cells #[.int .u64 x123000_4, .slice none 0 0, .slice none 0 0] 105 (0, 0))) := ⟨(by rw [hw]; exact (by (with_reducible repeat (first | refine blk_drewN ?_ _ | refine blk_drew ?_ | refine blk_alloc ?_ _)); refine blk_far ?_ NB122_158.out _; (with_reducible repeat (first | refine blk_drewN ?_ _ | refine blk_drew ?_ | refine blk_alloc ?_ _)); refine blk_far ?_ NB122_158.out _; (with_reducible repeat (first | refine blk_drewN ?_ _ | refine blk_drew ?_ | refine blk_alloc ?_ _)); refine blk_far ?_ NB122_158.out _; (with_reducible repeat (first | refine blk_drewN ?_ _ | refine blk_drew ?_ | refine blk_alloc ?_ _)); exact BK122.out))⟩; have n4_ : Aside0 (w106.heap[gb123]? = some (.cells #[.int .u64 0, .slice none 0 0, u124002] 105 (0, 0))) := ⟨(by rw [hw]; exact (by (with_reducible repeat (first | refine blk_drewN ?_ _ | refine blk_drew ?_ | refine blk_alloc ?_ _)); refine blk_far ?_ NB123_158.out _; (with_reducible repeat (first | refine blk_drewN ?_ _ | refine blk_drew ?_ | refine blk_alloc ?_ _)); refine blk_far ?_ NB123_158.out _; (with_reducible repeat (first | refine blk_drewN ?_ _ | refine blk_drew ?_ | refine blk_alloc ?_ _)); refine blk_far ?_ NB123_158.out _; (with_reducible repeat (first | refine blk_drewN ?_ _ | refine blk_drew ?_ | refine blk_alloc ?_ _)); exact BK123.out))⟩; have n5_ : Aside0 (w106.heap[gb158]? = some (.cells #[.int .u64 t149, .slice Ao104 t150.length co104, .slice Ao105 t153.length co105] 105 (0, 0))) := ⟨(by rw [hw]; exact (by (with_reducible repeat (first | refine blk_drewN ?_ _ | refine blk_drew ?_ | refine blk_alloc ?_ _)); refine blk_put (cs := #[.int .u64 t149, .slice Ao104 t150.length co104, .slice none 0 0]) ?_ 2 _ rfl; (with_reducible repeat (first | refine blk_drewN ?_ _ | refine blk_drew ?_ | refine blk_alloc ?_ _)); refine blk_put (cs := #[.int .u64 t149, .slice none 0 0, .slice none 0 0]) ?_ 1 _ rfl; (with_reducible repeat (first | refine blk_drewN ?_ _ | refine blk_drew ?_ | refine blk_alloc ?_ _)); refine blk_put (cs := #[.int .u64 0, .slice none 0 0, .slice none 0 0]) ?_ 0 _ rfl; (with_reducible repeat (first | refine blk_drewN ?_ _ | refine blk_drew ?_ | refine blk_alloc ?_ _)); exact BK158.out))⟩; have n6_ : Aside0 (Below w.heap.size w w106) := ⟨(by rw [hw]; exact (by repeat (first | (with_reducible first | exact HB.out | apply below_alloc | apply pw_below_drewN | apply below_drew1 | refine below_set ?_ GE122.out | refine below_set ?_ GE123.out | refine below_set ?_ GE158.out) | exact HB.out)))⟩; clear hw; clear HO_124002; clear HO152; clear HO155; clear BK122; clear BK123; clear BK158; clear HB; have HO_124002 := n0_; have HO152 := n1_; have HO155 := n2_; have BK122 := n3_; have BK123 := n4_; have BK158 := n5_; have HB := n6_; clear n0_ n1_ n2_ n3_ n4_ n5_ n6_; have hnb107 := NB123_122.out; have hnc107 := NB122_123.out; have hcz108_0 : w106.cell? ⟨gb123, 0, none⟩ = some (.int .u64 0) := (blk_cell BK123.out 0).trans rfl; have hcz108_1 : w106.cell? ⟨gb123, 1, none⟩ = some (.slice none 0 0) := (blk_cell BK123.out 1).trans rfl; have hcz108_2 : w106.cell? ⟨gb123, 2, none⟩ = some (u124002) := (blk_cell BK123.out 2).trans rfl; have hfz108_0 := blk_frozen BK123.out 0; have hfz108_1 := blk_frozen BK123.out 1; have hfz108_2 := blk_frozen BK123.out 2; have hcz109_0 : w106.cell? ⟨gb158, 0, none⟩ = some (.int .u64 t149) := (blk_cell BK158.out 0).trans rfl; have hcz109_1 : w106.cell? ⟨gb158, 1, none⟩ = some (.slice Ao104 t150.length co104) := (blk_cell BK158.out 1).trans rfl; have hcz109_2 : w106.cell? ⟨gb158, 2, none⟩ = some (.slice Ao105 t153.length co105) := (blk_cell BK158.out 2).trans rfl; have hfz109_0 := blk_frozen BK158.out 0; have hfz109_1 := blk_frozen BK158.out 1; have hfz109_2 := blk_frozen BK158.out 2) | ((with_reducible refine gate_builtin (b := .append) (xs := #[.tmp 148, .tmp 150]) rfl ?_); (try (refine gate_guard (by rfl) ?_; dsimp only)); at_builtin; refine Kd.R_append k105 (w0 := w) w.heap.size rfl (.tmp 148) (.tmp 150) 103 105 (.agg #[(.int .u64 0), (.slice none 0 0), (.slice none 0 0)]) 56 rfl Try.underlying103 info105 rfl (by decide) (by omega) u124002 x124002_4 (⟨t149, t150, t153⟩ : S105) [.int .u64 t149, .slice Ao104 t150.length co104, .slice Ao105 t153.length co105] (fun k_ => k_ ≠ gb122 ∧ k_ ≠ gb123 ∧ k_ ≠ gb158) (fun k_ => ((fun k_ => k_ ≠ gb122 ∧ k_ ≠ gb123 ∧ k_ ≠ gb158)) k_ ∧ some k_ ≠ (u124002 : Value).ownBlock) rfl rfl ?aP (fun _ hk => hk) ?aF ?aO ?aB ?aS ?aL ?_; (case aP => exact k105_mkM _ _ _ (⟨t149, t150, t153⟩ : S105) (Kd.R_mono (Kd.R_types (Kd.R_types (Kd.R_types (Kd.R_apart' (HO152.out) (Kd.R_typed HO_124002.out) (by decide)) BK122.out (by decide)) BK123.out (by decide)) BK158.out (by decide)) (fun k_ hk => ⟨⟨hk.1.1.2, ⟨hk.1.2, hk.2⟩⟩, hk.1.1.1.2⟩)) (Kd.R_mono (HO155.out) (fun k_ hk => ⟨⟨hk.2.2.1, ⟨hk.2.2.2.1, hk.2.2.2.2⟩⟩, hk.1⟩))); (case aB => exact (by repeat (first | (with_reducible first | exact HB.out | apply below_alloc | apply pw_below_drewN | apply below_drew1 | refine below_set ?_ GE122.out | refine below_set ?_ GE123.out | refine below_set ?_ GE158.out) | exact HB.out))); (case aF => exact (fun k_ hk => ⟨Kd.freshB (g := gb122) (o := .cells #[.int .u64 x123000_4, .slice none 0 0, .slice none 0 0] 105 (0, 0)) (by (with_reducible repeat (first | refine blk_drewN ?_ _ | refine blk_drew ?_ | refine blk_alloc ?_ _)); exact BK122.out) k_ hk, Kd.freshB (g := gb123) (o := .cells #[.int .u64 0, .slice none 0 0, u124002] 105 (0, 0)) (by (with_reducible repeat (first | refine blk_drewN ?_ _ | refine blk_drew ?_ | refine blk_alloc ?_ _)); exact BK123.out) k_ hk, Kd.freshB (g := gb158) (o := .cells #[.int .u64 t149, .slice Ao104 t150.length co104, .slice Ao105 t153.length co105] 105 (0, 0)) (by (with_reducible repeat (first | refine blk_drewN ?_ _ | refine blk_drew ?_ | refine blk_alloc ?_ _)); exact BK158.out) k_ hk⟩)); (case aO => exact (by (with_reducible repeat (first | apply Kd.R_alloc | apply Kd.R_drewN | apply Kd.R_drew)); exact Kd.R_mono HO_124002.out (fun _ hk => ⟨hk.2.2.1, ⟨hk.2.2.2.1, hk.2.2.2.2⟩⟩))); (case aS => exact (below_size (by repeat (first | (with_reducible first | exact HB.out | apply below_alloc | apply pw_below_drewN | apply below_drew1 | refine below_set ?_ GE122.out | refine below_set ?_ GE123.out | refine below_set ?_ GE158.out) | exact HB.out)))); (case aL => have := LMc98.out; omega); intro v160 w110 ho hb hg hat; rw [← Ny159.out] at ho; have n0_ := Aside0.mk (blk_grown (g := gb122) (o := .cells #[.int .u64 x123000_4, .slice none 0 0, .slice none 0 0] 105 (0, 0)) (by (with_reducible repeat (first | refine blk_drewN ?_ _ | refine blk_drew ?_ | refine blk_alloc ?_ _)); exact BK122.out) hg (Kd.R_away HO_124002.out (fun _ hk => hk.2.2.1))); have n1_ := Aside0.mk (blk_grown (g := gb123) (o := .cells #[.int .u64 0, .slice none 0 0, u124002] 105 (0, 0)) (by (with_reducible repeat (first | refine blk_drewN ?_ _ | refine blk_drew ?_ | refine blk_alloc ?_ _)); exact BK123.out) hg (Kd.R_away HO_124002.out (fun _ hk => hk.2.2.2.1))); have n2_ := Aside0.mk (blk_grown (g := gb158) (o := .cells #[.int .u64 t149, .slice Ao104 t150.length co104, .slice Ao105 t153.length co105] 105 (0, 0)) (by (with_reducible repeat (first | refine blk_drewN ?_ _ | refine blk_drew ?_ | refine blk_alloc ?_ _)); exact BK158.out) hg (Kd.R_away HO_124002.out (fun _ hk => hk.2.2.2.2))); have n3_ := Aside0.mk (hb); have n4_ := Aside0.mk (ho); clear BK122; clear BK123; clear BK158; clear HB; clear HO_124002; clear HO152; clear HO155; have BK122 := n0_; have BK123 := n1_; have BK158 := n2_; have HB := n3_; have HO161 := n4_; clear n0_ n1_ n2_ n3_ n4_; clear ho hb hg hat; obtain ⟨Ao111, co111, eo111⟩ := Kd.R_slice HO161.out; subst eo111; have hcz112_0 : w110.cell? ⟨gb123, 0, none⟩ = some (.int .u64 0) := (blk_cell BK123.out 0).trans rfl; have hcz112_1 : w110.cell? ⟨gb123, 1, none⟩ = some (.slice none 0 0) := (blk_cell BK123.out 1).trans rfl; have hcz112_2 : w110.cell? ⟨gb123, 2, none⟩ = some (u124002) := (blk_cell BK123.out 2).trans rfl; have hfz112_0 := blk_frozen BK123.out 0; have hfz112_1 := blk_frozen BK123.out 1; have hfz112_2 := blk_frozen BK123.out 2))
                                          go_roundg k4
                                          case measure => have := HJ56.out; have := HJ66.out; have := HJ72.out; have := HK4.out; omega
                                          case rel => exact ⟨(t156), (wrap64 (x19_4 + 1)), (x123000_4), (y159), (.slice Ao111 y159.length co111), (by first | rfl | (simp; done) | (simp [*]; done)), (by first | rfl | (simp; done) | (simp [*]; done)), H', ⟨by have := HJ56.out; have := HJ66.out; have := HJ72.out; have := HK4.out; omega⟩, ⟨by (with_reducible repeat (first | apply Kd.R_alloc | apply Kd.R_drewN | apply Kd.R_drew)); exact Kd.R_mono (Kd.R_far (p := ⟨gb123, 2, none⟩) (Kd.R_mono HO161.out (fun k_ hk => (⟨hk, hk.2.1⟩ : _ ∧ k_ ≠ gb123))) (fun _ hk => hk.2) (.slice Ao111 y159.length co111)) (fun _ hk => ⟨hk.1.1, hk.1.2.1⟩)⟩, ⟨by (with_reducible repeat (first | refine blk_drewN ?_ _ | refine blk_drew ?_ | refine blk_alloc ?_ _)); refine blk_far ?_ NB122_123.out _; (with_reducible repeat (first | refine blk_drewN ?_ _ | refine blk_drew ?_ | refine blk_alloc ?_ _)); exact BK122.out⟩, ⟨by (with_reducible repeat (first | refine blk_drewN ?_ _ | refine blk_drew ?_ | refine blk_alloc ?_ _)); refine blk_put (cs := #[.int .u64 0, .slice none 0 0, u124002]) ?_ 2 _ rfl; (with_reducible repeat (first | refine blk_drewN ?_ _ | refine blk_drew ?_ | refine blk_alloc ?_ _)); exact BK123.out⟩, ⟨by repeat (first | (with_reducible first | exact HB.out | apply below_alloc | apply pw_below_drewN | apply below_drew1 | refine below_set ?_ GE122.out | refine below_set ?_ GE123.out | refine below_set ?_ GE158.out) | exact HB.out)⟩⟩
                                        · rw [if_neg c98] at H
                                          exact absurd H (by simp)
                                      · rw [if_neg c97] at H
                                        have c97b0 : (t157 == 0) = false := beq_eq_false_iff_ne.mpr c97
                                        have c97b1 : (t157 != 0) = true := bne_iff_ne.mpr c97
                                        simp only [Option.some.injEq, Prod.mk.injEq] at H
                                        obtain ⟨rfl, rfl, rfl, rfl, rfl⟩ := H
                                        go_wp2_with (first | ((with_reducible refine gate_callee (f := 61) rfl ?_); refine goesL_ (some 138) rfl rfl Try.func61 (by kernel_rfl) rfl #[.string (a0.extract 1 a0.size), .slice A1 l1.length c1, .int .i64 x2_4] rfl (by (try simp only [List.map_toArray, List.map_cons, List.map_nil]); first | done | rfl | (simp only [List.length_drop, List.length_take]; rfl)) ?_; (with_reducible refine (ih k4 (by have := HJ56.out; have := HJ66.out; have := HJ72.out; have := HK4.out; omega) (a0.extract 1 a0.size) _ _ l1 x2_4 t149 t150 t153 t156 t157 _ ?side1 ?side2 A96.out).mono ?_); (case side1 => repeat (first | exact (Kd.C_below HR1.out HB.out) | (with_reducible refine Kd.C_alloc ?_ _) | (with_reducible refine Kd.C_drewN ?_ _) | (with_reducible refine Kd.C_drew ?_))); (case side2 => exact HC1.out); rintro e w113 ⟨v151, v154, rfl, ho0, ho1, hb⟩; refine ⟨_, rfl, ?_⟩; have n0_ := Aside0.mk (Kd.R_mono (Kd.R_told (Kd.R_told (Kd.R_old (by (with_reducible repeat (first | apply Kd.R_alloc | apply Kd.R_drewN | apply Kd.R_drew)); exact HO_124002.out) hb) (Kd.R_base ho0)) (Kd.R_base ho1)) (fun _ h_ => h_.1)); have n1_ := Aside0.mk (Kd.R_lower ho0 (below_size (by repeat (first | (with_reducible first | exact HB.out | apply below_alloc | apply pw_below_drewN | apply below_drew1 | refine below_set ?_ GE122.out | refine below_set ?_ GE123.out) | exact HB.out)))); have n2_ := Aside0.mk (Kd.R_lower (Kd.R_newB (Kd.R_newB (Kd.R_new' ho1 (Kd.R_lt (by (with_reducible repeat (first | apply Kd.R_alloc | apply Kd.R_drewN | apply Kd.R_drew)); exact HO_124002.out))) (g := gb122) (o := .cells #[.int .u64 x123000_4, .slice none 0 0, .slice none 0 0] 105 (0, 0)) (by (with_reducible repeat (first | refine blk_drewN ?_ _ | refine blk_drew ?_ | refine blk_alloc ?_ _)); exact BK122.out)) (g := gb123) (o := .cells #[.int .u64 0, .slice none 0 0, u124002] 105 (0, 0)) (by (with_reducible repeat (first | refine blk_drewN ?_ _ | refine blk_drew ?_ | refine blk_alloc ?_ _)); exact BK123.out)) (below_size (by repeat (first | (with_reducible first | exact HB.out | apply below_alloc | apply pw_below_drewN | apply below_drew1 | refine below_set ?_ GE122.out | refine below_set ?_ GE123.out) | exact HB.out)))); have n3_ := Aside0.mk (blk_below (g := gb122) (o := .cells #[.int .u64 x123000_4, .slice none 0 0, .slice none 0 0] 105 (0, 0)) (by (with_reducible repeat (first | refine blk_drewN ?_ _ | refine blk_drew ?_ | refine blk_alloc ?_ _)); exact BK122.out) hb); have n4_ := Aside0.mk (blk_below (g := gb123) (o := .cells #[.int .u64 0, .slice none 0 0, u124002] 105 (0, 0)) (by (with_reducible repeat (first | refine blk_drewN ?_ _ | refine blk_drew ?_ | refine blk_alloc ?_ _)); exact BK123.out) hb); have n5_ := Aside0.mk (below_step (by repeat (first | (with_reducible first | exact HB.out | apply below_alloc | apply pw_below_drewN | apply below_drew1 | refine below_set ?_ GE122.out | refine below_set ?_ GE123.out) | exact HB.out)) hb); clear HO_124002; clear BK122; clear BK123; clear HB; have HO_124002 := n0_; have HO152 := n1_; have HO155 := n2_; have BK122 := n3_; have BK123 := n4_; have HB := n5_; clear n0_ n1_ n2_ n3_ n4_ n5_; (try clear hb); (try clear hb2); (try clear hk); (try clear hi); (try clear ho0); (try clear ho1)) | ((with_reducible refine gate_dst (N := 20) rfl ?_); (try (refine gate_guard (by rfl) ?_; dsimp only)); refine box_event ?hg (N := 20) ?hd (cs := #[.int .u64 0, .slice none 0 0, .slice none 0 0]) (t := 105) ?hr ?_; (case hd => rfl); (case hg => rfl); (case hr => first | (go_simp; done) | (go_simp; rfl)); intro gb158 hg w114 hbox hb; have n0_ := Aside0.mk (Kd.R_below (Kd.R_elderB (by (with_reducible repeat (first | apply Kd.R_alloc | apply Kd.R_drewN | apply Kd.R_drew)); exact HO_124002.out) gb158 (Nat.le_of_eq hg.symm)) hb); have n1_ := Aside0.mk (Kd.R_below (by (with_reducible repeat (first | apply Kd.R_alloc | apply Kd.R_drewN | apply Kd.R_drew)); exact HO152.out) hb); have n2_ := Aside0.mk (Kd.R_below (Kd.R_elderB (by (with_reducible repeat (first | apply Kd.R_alloc | apply Kd.R_drewN | apply Kd.R_drew)); exact HO155.out) gb158 (Nat.le_of_eq hg.symm)) hb); have n3_ := Aside0.mk (blk_below (g := gb122) (o := .cells #[.int .u64 x123000_4, .slice none 0 0, .slice none 0 0] 105 (0, 0)) (by (with_reducible repeat (first | refine blk_drewN ?_ _ | refine blk_drew ?_ | refine blk_alloc ?_ _)); exact BK122.out) hb); have n4_ := Aside0.mk (blk_below (g := gb123) (o := .cells #[.int .u64 0, .slice none 0 0, u124002] 105 (0, 0)) (by (with_reducible repeat (first | refine blk_drewN ?_ _ | refine blk_drew ?_ | refine blk_alloc ?_ _)); exact BK123.out) hb); have n5_ := Aside0.mk (below_step (by repeat (first | (with_reducible first | exact HB.out | apply below_alloc | apply pw_below_drewN | apply below_drew1 | refine below_set ?_ GE122.out | refine below_set ?_ GE123.out) | exact HB.out)) hb); have n6_ := Aside0.mk (hbox); have n7_ := Aside0.mk ((by rw [hg]; exact (below_size (by repeat (first | (with_reducible first | exact HB.out | apply below_alloc | apply pw_below_drewN | apply below_drew1 | refine below_set ?_ GE122.out | refine below_set ?_ GE123.out) | exact HB.out))) : w.heap.size ≤ gb158)); have n8_ := Aside0.mk ((by rw [hg]; exact (below_size (by repeat (first | (with_reducible first | exact HB.out | apply below_alloc | apply pw_below_drewN | apply below_drew1 | refine below_set ?_ GE122.out | refine below_set ?_ GE123.out) | exact HB.out))) : w.heap.size ≤ gb158)); have n9_ := Aside0.mk ((by rw [hg]; exact Nat.ne_of_lt (blk_lt (g := gb122) (o := .cells #[.int .u64 x123000_4, .slice none 0 0, .slice none 0 0] 105 (0, 0)) (by (with_reducible repeat (first | refine blk_drewN ?_ _ | refine blk_drew ?_ | refine blk_alloc ?_ _)); exact BK122.out)) : gb122 ≠ gb158)); have n10_ := Aside0.mk ((by rw [hg]; exact Nat.ne_of_gt (blk_lt (g := gb122) (o := .cells #[.int .u64 x123000_4, .slice none 0 0, .slice none 0 0] 105 (0, 0)) (by (with_reducible repeat (first | refine blk_drewN ?_ _ | refine blk_drew ?_ | refine blk_alloc ?_ _)); exact BK122.out)) : gb158 ≠ gb122)); have n11_ := Aside0.mk ((by rw [hg]; exact Nat.ne_of_lt (blk_lt (g := gb123) (o := .cells #[.int .u64 0, .slice none 0 0, u124002] 105 (0, 0)) (by (with_reducible repeat (first | refine blk_drewN ?_ _ | refine blk_drew ?_ | refine blk_alloc ?_ _)); exact BK123.out)) : gb123 ≠ gb158)); have n12_ := Aside0.mk ((by rw [hg]; exact Nat.ne_of_gt (blk_lt (g := gb123) (o := .cells #[.int .u64 0, .slice none 0 0, u124002] 105 (0, 0)) (by (with_reducible repeat (first | refine blk_drewN ?_ _ | refine blk_drew ?_ | refine blk_alloc ?_ _)); exact BK123.out)) : gb158 ≠ gb123)); clear HO_124002; clear HO152; clear HO155; clear BK122; clear BK123; clear HB; have HO_124002 := n0_; have HO152 := n1_; have HO155 := n2_; have BK122 := n3_; have BK123 := n4_; have HB := n5_; have BK158 := n6_; have GW158 := n7_; have GE158 := n8_; have NB122_158 := n9_; have NB158_122 := n10_; have NB123_158 := n11_; have NB158_123 := n12_; clear n0_ n1_ n2_ n3_ n4_ n5_ n6_ n7_ n8_ n9_ n10_ n11_ n12_; clear hb hbox hg; have hnb115 := NB158_122.out; have hnc115 := NB122_158.out; have hnb116 := NB158_123.out; have hnc116 := NB123_158.out; have hcz117_0 : w114.cell? ⟨gb158, 0, none⟩ = some (.int .u64 0) := (blk_cell BK158.out 0).trans rfl; have hcz117_1 : w114.cell? ⟨gb158, 1, none⟩ = some (.slice none 0 0) := (blk_cell BK158.out 1).trans rfl; have hcz117_2 : w114.cell? ⟨gb158, 2, none⟩ = some (.slice none 0 0) := (blk_cell BK158.out 2).trans rfl; have hfz117_0 := blk_frozen BK158.out 0; have hfz117_1 := blk_frozen BK158.out 1; have hfz117_2 := blk_frozen BK158.out 2; obtain ⟨Ao118, co118, eo118⟩ := Kd.R_slice HO152.out; subst eo118; obtain ⟨Ao119, co119, eo119⟩ := Kd.R_slice HO155.out; subst eo119; have hnb120 := NB122_123.out; have hnc120 := NB123_122.out; have hcz121_0 : w114.cell? ⟨gb122, 0, none⟩ = some (.int .u64 x123000_4) := (blk_cell BK122.out 0).trans rfl; have hcz121_1 : w114.cell? ⟨gb122, 1, none⟩ = some (.slice none 0 0) := (blk_cell BK122.out 1).trans rfl; have hcz121_2 : w114.cell? ⟨gb122, 2, none⟩ = some (.slice none 0 0) := (blk_cell BK122.out 2).trans rfl; have hfz121_0 := blk_frozen BK122.out 0; have hfz121_1 := blk_frozen BK122.out 1; have hfz121_2 := blk_frozen BK122.out 2))
                                        refine bodyPost_ret (results_ctt rfl _ _ gb122 105 #[.int .u64 0, .slice none 0 0, .slice none 0 0] (0, 0) _ rfl (by (with_reducible repeat (first | refine blk_drewN ?_ _ | refine blk_drew ?_ | refine blk_alloc ?_ _)); refine blk_put (cs := #[.int .u64 0, .slice none 0 0, .slice none 0 0]) ?_ 2 _ rfl; (with_reducible repeat (first | refine blk_drewN ?_ _ | refine blk_drew ?_ | refine blk_alloc ?_ _)); refine blk_put (cs := #[.int .u64 0, .slice none 0 0, .slice none 0 0]) ?_ 1 _ rfl; (with_reducible repeat (first | refine blk_drewN ?_ _ | refine blk_drew ?_ | refine blk_alloc ?_ _)); refine blk_put (cs := #[.int .u64 x123000_4, .slice none 0 0, .slice none 0 0]) ?_ 0 _ rfl; (with_reducible repeat (first | refine blk_drewN ?_ _ | refine blk_drew ?_ | refine blk_alloc ?_ _)); refine blk_far ?_ NB122_158.out _; (with_reducible repeat (first | refine blk_drewN ?_ _ | refine blk_drew ?_ | refine blk_alloc ?_ _)); refine blk_far ?_ NB122_158.out _; (with_reducible repeat (first | refine blk_drewN ?_ _ | refine blk_drew ?_ | refine blk_alloc ?_ _)); refine blk_far ?_ NB122_158.out _; (with_reducible repeat (first | refine blk_drewN ?_ _ | refine blk_drew ?_ | refine blk_alloc ?_ _)); exact BK122.out) Try.underlying105 rfl (by kernel_rfl)) rfl ?_
                                        exact ⟨_, _, by first | rfl | (simp [errW_none, errW_some] <;> rfl) | (simp [*, errW_none, errW_some] <;> rfl), by first | exact Kd.R_nil _ _ _ _ _ | exact Kd.N_nil _ _ _ _ _ | exact Kd.V_nil _ _ _ _ _ | exact Kd.Q_nil _ _ _ _ _ | exact Kd.S_nil _ _ _ _ _, by first | exact Kd.R_nil _ _ _ _ _ | exact Kd.N_nil _ _ _ _ _ | exact Kd.V_nil _ _ _ _ _ | exact Kd.Q_nil _ _ _ _ _ | exact Kd.S_nil _ _ _ _ _, by repeat (first | (with_reducible first | exact HB.out | apply below_alloc | apply pw_below_drewN | apply below_drew1 | refine below_set ?_ GE122.out | refine below_set ?_ GE123.out | refine below_set ?_ GE158.out) | exact HB.out)⟩
                                    · rw [if_neg c95] at H
                                      exact absurd H (by simp)
                                  · rw [if_neg c94] at H
                                    have c94b0 : decide (x19_4 < (wrap64 (t141))) = false := decide_eq_false c94
                                    clear c94
                                    simp only [Option.some.injEq, Prod.mk.injEq] at H
                                    obtain ⟨rfl, rfl, rfl, rfl, rfl⟩ := H
                                    have hnb122 := NB123_122.out
                                    have hnc122 := NB122_123.out
                                    have hcz123_0 : wr.cell? ⟨gb123, 0, none⟩ = some (.int .u64 0) := (blk_cell BK123.out 0).trans rfl
                                    have hcz123_1 : wr.cell? ⟨gb123, 1, none⟩ = some (.slice none 0 0) := (blk_cell BK123.out 1).trans rfl
                                    have hcz123_2 : wr.cell? ⟨gb123, 2, none⟩ = some (u124002) := (blk_cell BK123.out 2).trans rfl
                                    have hfz123_0 := blk_frozen BK123.out 0
                                    have hfz123_1 := blk_frozen BK123.out 1
                                    have hfz123_2 := blk_frozen BK123.out 2
                                    have hcz124_0 : wr.cell? ⟨gb122, 0, none⟩ = some (.int .u64 x123000_4) := (blk_cell BK122.out 0).trans rfl
                                    have hcz124_1 : wr.cell? ⟨gb122, 1, none⟩ = some (.slice none 0 0) := (blk_cell BK122.out 1).trans rfl
                                    have hcz124_2 : wr.cell? ⟨gb122, 2, none⟩ = some (.slice none 0 0) := (blk_cell BK122.out 2).trans rfl
                                    have hfz124_0 := blk_frozen BK122.out 0
                                    have hfz124_1 := blk_frozen BK122.out 1
                                    have hfz124_2 := blk_frozen BK122.out 2
                                    obtain ⟨Ao125, co125, eo125⟩ := Kd.R_slice HO_124002.out
                                    subst eo125
                                    go_wp2
                                    refine bodyPost_ret (results_ctt rfl _ _ gb122 105 #[.int .u64 0, .slice none 0 0, .slice Ao125 x124002_4.length co125] (0, 0) _ rfl (by (with_reducible repeat (first | refine blk_drewN ?_ _ | refine blk_drew ?_ | refine blk_alloc ?_ _)); refine blk_put (cs := #[.int .u64 0, .slice none 0 0, .slice none 0 0]) ?_ 2 _ rfl; (with_reducible repeat (first | refine blk_drewN ?_ _ | refine blk_drew ?_ | refine blk_alloc ?_ _)); refine blk_put (cs := #[.int .u64 0, .slice none 0 0, .slice none 0 0]) ?_ 1 _ rfl; (with_reducible repeat (first | refine blk_drewN ?_ _ | refine blk_drew ?_ | refine blk_alloc ?_ _)); refine blk_put (cs := #[.int .u64 x123000_4, .slice none 0 0, .slice none 0 0]) ?_ 0 _ rfl; (with_reducible repeat (first | refine blk_drewN ?_ _ | refine blk_drew ?_ | refine blk_alloc ?_ _)); exact BK122.out) Try.underlying105 rfl (by kernel_rfl)) rfl ?_
                                    exact ⟨_, _, by first | rfl | (simp [errW_none, errW_some] <;> rfl) | (simp [*, errW_none, errW_some] <;> rfl), by first | exact Kd.R_nil _ _ _ _ _ | exact Kd.N_nil _ _ _ _ _ | exact Kd.V_nil _ _ _ _ _ | exact Kd.Q_nil _ _ _ _ _ | exact Kd.S_nil _ _ _ _ _, by (with_reducible repeat (first | apply Kd.R_alloc | apply Kd.R_drewN | apply Kd.R_drew)); exact Kd.R_mono (Kd.R_far (p := ⟨gb122, 2, none⟩) (Kd.R_far (p := ⟨gb122, 1, none⟩) (Kd.R_far (p := ⟨gb122, 0, none⟩) (Kd.R_mono HO_124002.out (fun k_ hk => (⟨hk, hk.1⟩ : _ ∧ k_ ≠ gb122))) (fun _ hk => hk.2) (.int .u64 0)) (fun _ hk => hk.2) (.slice none 0 0)) (fun _ hk => hk.2) (.slice Ao125 x124002_4.length co125)) (fun _ hk => (by simp [Value.ownBlock])), by repeat (first | (with_reducible first | exact HB.out | apply below_alloc | apply pw_below_drewN | apply below_drew1 | refine below_set ?_ GE122.out | refine below_set ?_ GE123.out) | exact HB.out)⟩
                          · rw [if_neg c79] at H
                            exact absurd H (by simp)
      · rw [if_neg c49] at H
        have c49b0 : (t143 == 0) = false := beq_eq_false_iff_ne.mpr c49
        have c49b1 : (t143 != 0) = true := bne_iff_ne.mpr c49
        simp only [Option.some.injEq, Prod.mk.injEq] at H
        obtain ⟨rfl, rfl, rfl, rfl, rfl⟩ := H
        go_enter Try.func61, Try.ntmps61
        go_wp2_with (first | ((with_reducible refine gate_dst (N := 6) rfl ?_); (try (refine gate_guard (by rfl) ?_; dsimp only)); refine box_event ?hg (N := 6) ?hd (cs := #[.int .u64 0, .slice none 0 0, .slice none 0 0]) (t := 105) ?hr ?_; (case hd => rfl); (case hg => rfl); (case hr => first | (go_simp; done) | (go_simp; rfl)); intro gb122 hg w126 hbox hb; have n0_ := Aside0.mk (below_step (by repeat (first | (with_reducible first | exact HB.out | apply below_alloc | apply pw_below_drewN | apply below_drew1) | exact HB.out)) hb); have n1_ := Aside0.mk (hbox); have n2_ := Aside0.mk ((by rw [hg]; exact (below_size (by repeat (first | (with_reducible first | exact HB.out | apply below_alloc | apply pw_below_drewN | apply below_drew1) | exact HB.out))) : w.heap.size ≤ gb122)); have n3_ := Aside0.mk ((by rw [hg]; exact (below_size (by repeat (first | (with_reducible first | exact HB.out | apply below_alloc | apply pw_below_drewN | apply below_drew1) | exact HB.out))) : w.heap.size ≤ gb122)); clear HB; have HB := n0_; have BK122 := n1_; have GW122 := n2_; have GE122 := n3_; clear n0_ n1_ n2_ n3_; clear hb hbox hg) | ((with_reducible refine gate_dst (N := 9) rfl ?_); (try (refine gate_guard (by rfl) ?_; dsimp only)); refine box_event ?hg (N := 9) ?hd (cs := #[.int .u64 0, .slice none 0 0, .slice none 0 0]) (t := 105) ?hr ?_; (case hd => rfl); (case hg => rfl); (case hr => first | (go_simp; done) | (go_simp; rfl)); intro gb123 hg w127 hbox hb; have n0_ := Aside0.mk (blk_below (g := gb122) (o := .cells #[.int .u64 0, .slice none 0 0, .slice none 0 0] 105 (0, 0)) (by (with_reducible repeat (first | refine blk_drewN ?_ _ | refine blk_drew ?_ | refine blk_alloc ?_ _)); exact BK122.out) hb); have n1_ := Aside0.mk (below_step (by repeat (first | (with_reducible first | exact HB.out | apply below_alloc | apply pw_below_drewN | apply below_drew1 | refine below_set ?_ GE122.out) | exact HB.out)) hb); have n2_ := Aside0.mk (hbox); have n3_ := Aside0.mk ((by rw [hg]; exact (below_size (by repeat (first | (with_reducible first | exact HB.out | apply below_alloc | apply pw_below_drewN | apply below_drew1 | refine below_set ?_ GE122.out) | exact HB.out))) : w.heap.size ≤ gb123)); have n4_ := Aside0.mk ((by rw [hg]; exact (below_size (by repeat (first | (with_reducible first | exact HB.out | apply below_alloc | apply pw_below_drewN | apply below_drew1 | refine below_set ?_ GE122.out) | exact HB.out))) : w.heap.size ≤ gb123)); have n5_ := Aside0.mk ((by rw [hg]; exact Nat.ne_of_lt (blk_lt (g := gb122) (o := .cells #[.int .u64 0, .slice none 0 0, .slice none 0 0] 105 (0, 0)) (by (with_reducible repeat (first | refine blk_drewN ?_ _ | refine blk_drew ?_ | refine blk_alloc ?_ _)); exact BK122.out)) : gb122 ≠ gb123)); have n6_ := Aside0.mk ((by rw [hg]; exact Nat.ne_of_gt (blk_lt (g := gb122) (o := .cells #[.int .u64 0, .slice none 0 0, .slice none 0 0] 105 (0, 0)) (by (with_reducible repeat (first | refine blk_drewN ?_ _ | refine blk_drew ?_ | refine blk_alloc ?_ _)); exact BK122.out)) : gb123 ≠ gb122)); clear BK122; clear HB; have BK122 := n0_; have HB := n1_; have BK123 := n2_; have GW123 := n3_; have GE123 := n4_; have NB122_123 := n5_; have NB123_122 := n6_; clear n0_ n1_ n2_ n3_ n4_ n5_ n6_; clear hb hbox hg; have hnb128 := NB123_122.out; have hnc128 := NB122_123.out; have hcz129_0 : w127.cell? ⟨gb123, 0, none⟩ = some (.int .u64 0) := (blk_cell BK123.out 0).trans rfl; have hcz129_1 : w127.cell? ⟨gb123, 1, none⟩ = some (.slice none 0 0) := (blk_cell BK123.out 1).trans rfl; have hcz129_2 : w127.cell? ⟨gb123, 2, none⟩ = some (.slice none 0 0) := (blk_cell BK123.out 2).trans rfl; have hfz129_0 := blk_frozen BK123.out 0; have hfz129_1 := blk_frozen BK123.out 1; have hfz129_2 := blk_frozen BK123.out 2; have p5 : 0 ≤ (0 : Int) := (by omega); have q5 : 0 < a0.size := (by have : (0 : Int) < (a0.size : Int) := of_decide_eq_true (by first | (with_reducible assumption) | assumption); omega); have hx5 : ∀ h : 0 < a0.size, ((a0[0]'h).toNat : Int) = bt a0 0 := bt_at a0 0; clear p5; have qi5 : (0 < (a0.size : Int)) = True := eq_true (of_decide_eq_true (by first | (with_reducible assumption) | assumption)); replace q5 := eq_true q5) | ((with_reducible refine gate_callee (f := 83) rfl ?_); refine goesL_ (some 63) rfl rfl Try.func83 (by kernel_rfl) rfl #[.slice A1 l1.length c1, .int .i64 a2] rfl (by (try simp only [List.map_toArray, List.map_cons, List.map_nil]); first | done | rfl | (simp only [List.length_drop, List.length_take]; rfl)) ?_; (with_reducible refine (echelonref01_number.calls k _ _ l1 a2 t141 t142 t143 _ ?side1 ?side2 A48.out).mono ?_); (case side1 => exact Kd.C_below HR1.out (by repeat (first | (with_reducible first | exact HB.out | apply below_alloc | apply pw_below_drewN | apply below_drew1 | refine below_set ?_ GE122.out | refine below_set ?_ GE123.out) | exact HB.out))); (case side2 => exact HC1.out); rintro e w' ⟨rfl, ⟨nd, rfl⟩⟩; refine ⟨_, rfl, ?_⟩; have hcz130_0 : w127.cell? ⟨gb122, 0, none⟩ = some (.int .u64 0) := (blk_cell BK122.out 0).trans rfl; have hcz130_1 : w127.cell? ⟨gb122, 1, none⟩ = some (.slice none 0 0) := (blk_cell BK122.out 1).trans rfl; have hcz130_2 : w127.cell? ⟨gb122, 2, none⟩ = some (.slice none 0 0) := (blk_cell BK122.out 2).trans rfl; have hfz130_0 := blk_frozen BK122.out 0; have hfz130_1 := blk_frozen BK122.out 1; have hfz130_2 := blk_frozen BK122.out 2))
        refine bodyPost_ret (results_ctt rfl _ _ gb122 105 #[.int .u64 0, .slice none 0 0, .slice none 0 0] (0, 0) _ rfl (by (with_reducible repeat (first | refine blk_drewN ?_ _ | refine blk_drew ?_ | refine blk_alloc ?_ _)); refine blk_put (cs := #[.int .u64 0, .slice none 0 0, .slice none 0 0]) ?_ 2 _ rfl; (with_reducible repeat (first | refine blk_drewN ?_ _ | refine blk_drew ?_ | refine blk_alloc ?_ _)); refine blk_put (cs := #[.int .u64 0, .slice none 0 0, .slice none 0 0]) ?_ 1 _ rfl; (with_reducible repeat (first | refine blk_drewN ?_ _ | refine blk_drew ?_ | refine blk_alloc ?_ _)); refine blk_put (cs := #[.int .u64 0, .slice none 0 0, .slice none 0 0]) ?_ 0 _ rfl; (with_reducible repeat (first | refine blk_drewN ?_ _ | refine blk_drew ?_ | refine blk_alloc ?_ _)); refine blk_far ?_ NB122_123.out _; (with_reducible repeat (first | refine blk_drewN ?_ _ | refine blk_drew ?_ | refine blk_alloc ?_ _)); refine blk_far ?_ NB122_123.out _; (with_reducible repeat (first | refine blk_drewN ?_ _ | refine blk_drew ?_ | refine blk_alloc ?_ _)); refine blk_far ?_ NB122_123.out _; (with_reducible repeat (first | refine blk_drewN ?_ _ | refine blk_drew ?_ | refine blk_alloc ?_ _)); exact BK122.out) Try.underlying105 rfl (by kernel_rfl)) rfl ?_
        exact ⟨_, _, by first | rfl | (simp [errW_none, errW_some] <;> rfl) | (simp [*, errW_none, errW_some] <;> rfl), by first | exact Kd.R_nil _ _ _ _ _ | exact Kd.N_nil _ _ _ _ _ | exact Kd.V_nil _ _ _ _ _ | exact Kd.Q_nil _ _ _ _ _ | exact Kd.S_nil _ _ _ _ _, by first | exact Kd.R_nil _ _ _ _ _ | exact Kd.N_nil _ _ _ _ _ | exact Kd.V_nil _ _ _ _ _ | exact Kd.Q_nil _ _ _ _ _ | exact Kd.S_nil _ _ _ _ _, by repeat (first | (with_reducible first | exact HB.out | apply below_alloc | apply pw_below_drewN | apply below_drew1 | refine below_set ?_ GE122.out | refine below_set ?_ GE123.out) | exact HB.out)⟩
  · rw [if_neg c4] at H
    exact absurd H (by simp)
end Go.Proofs.Ytnkpleggmiamdaa.PSessionParses
