-- PRINTED BY print.sh 35421559b90ae4d0a3588c463048766b98c2df88dd9212a6774a882060cdf62d: not written by this session
import Derived.Test.YtcdlccnpbhjgkaaPTimerAlarmsx0
namespace Go.Proofs.Ytcdlccnpbhjgkaa.PTimerAlarms
open Go.RowKit Go.Proofs.YtcdlccnpbhjgkaaW.PrintWords Go.Proofs.YtcdlccnpbhjgkaaW.PrintLast Go.Proofs.YtcdlccnpbhjgkaaW.PrintMore
attribute [local go_sem] max2_int min2_int max_two min_two max_three min_three max_four min_four   -- for this text's walks alone
set_option linter.unusedVariables false
set_option linter.unusedSimpArgs false

-- NOT PRINTED: function 96 (timer_alarm)

-- NOT PRINTED: function 74 (timer_Alarms_find)

-- NOT PRINTED: function 98 (heap_down)

-- NOT PRINTED: function 99 (heap_up)

-- NOT PRINTED: function 75 (heap_Fix)

-- NOT PRINTED: function 76 (heap_Push)

-- NOT PRINTED: function 29 (timer_Alarms_Set)

-- NOT PRINTED: function 77 (heap_Pop)

-- NOT PRINTED: function 30 (timer_Alarms_Due)

/-! ### timer_Span: function 42 -/
def timer_Span.f (a0 : Int) (a1 : Int) : Option (Int) := if a0 < 1 then (some 0) else (if a0 > 2147483648 then (some 0) else (if (IntKind.u64.wrap (a0)) = 0 then (none) else (some (wrap64 (a0 + (wrap64 (Int.tmod a1 (IntKind.u64.wrap (a0)))))))))
set_option maxHeartbeats 8000000 in
set_option maxRecDepth 100000 in
theorem timer_Span.calls (a0 : Int) (a1 : Int) (r : Int) (w : World) (h : timer_Span.f a0 a1 = some r) :
    Calls Try.prog 42 #[.int .i64 a0, .int .u64 a1] w fun e w' => e = .returned (.int .i64 r) ∧ Drawn0 w w' := by
  have H : (if a0 < 1 then (some 0) else (if a0 > 2147483648 then (some 0) else (if (IntKind.u64.wrap (a0)) = 0 then (none) else (some (wrap64 (a0 + (wrap64 (Int.tmod a1 (IntKind.u64.wrap (a0)))))))))) = some r := h
  clear h
  by_cases c3 : a0 < 1
  · rw [if_pos c3] at H
    have c3b0 : decide (a0 < 1) = true := decide_eq_true c3
    clear c3
    obtain rfl := Option.some.inj H
    go_enter Try.func42, Try.ntmps42
    go_wp2
    go_ret
    exact ⟨by first | rfl | (simp; done) | (simp [*]; done), by repeat (first | exact Drawn0.refl _ | apply Drawn0.step)⟩
  · rw [if_neg c3] at H
    have c3b0 : decide (a0 < 1) = false := decide_eq_false c3
    clear c3
    by_cases c4 : a0 > 2147483648
    · rw [if_pos c4] at H
      have c4b0 : decide (2147483648 < a0) = true := decide_eq_true c4
      clear c4
      obtain rfl := Option.some.inj H
      go_enter Try.func42, Try.ntmps42
      go_wp2
      go_ret
      exact ⟨by first | rfl | (simp; done) | (simp [*]; done), by repeat (first | exact Drawn0.refl _ | apply Drawn0.step)⟩
    · rw [if_neg c4] at H
      have c4b0 : decide (2147483648 < a0) = false := decide_eq_false c4
      clear c4
      by_cases c5 : (IntKind.u64.wrap (a0)) = 0
      · rw [if_pos c5] at H
        exact absurd H (by simp)
      · rw [if_neg c5] at H
        have c5b0 : ((IntKind.u64.wrap (a0)) == 0) = false := beq_eq_false_iff_ne.mpr c5
        have c5b1 : ((IntKind.u64.wrap (a0)) != 0) = true := bne_iff_ne.mpr c5
        obtain rfl := Option.some.inj H
        go_enter Try.func42, Try.ntmps42
        go_wp2
        go_ret
        exact ⟨by first | rfl | (simp; done) | (simp [*]; done), by repeat (first | exact Drawn0.refl _ | apply Drawn0.step)⟩

-- NOT PRINTED: function 32 (timer_New)

/-- A state of type 132 at block g of W; what its slices lead to came in by w0. -/
def IsS132 (w0 W : World) (g : Nat) (f0 : Int) (f1 : Int) : Prop := W.heap[g]? = some (.cells #[.int .i64 f0, .int .i64 f1] 132 (0, 0)) ∧ w0.heap.size ≤ g
theorem IsS132.grown {w0 W : World} {g : Nat} {f0 : Int} {f1 : Int} {W1 : World} {row : Option Nat} (h : IsS132 w0 W g f0 f1) (hw : W.grownBy W1 row) (hne : some g ≠ row) : IsS132 w0 W1 g f0 f1 := by
  obtain ⟨hb, hg⟩ := h
  exact ⟨blk_grown hb hw hne, hg⟩
theorem IsS132.own_neN {w0 W : World} {g : Nat} {f0 : Int} {f1 : Int} {α : Type} {d : Kd α} {e : Nat} {base : Nat} {ok : Nat → Prop} {v : Value} {xs : List α} (h : IsS132 w0 W g f0 f1) (ho : Kd.N d e W base ok v xs) (ht : e ≠ 132) : some g ≠ v.ownBlock := by
  obtain ⟨hb, hg⟩ := h
  exact Kd.N_ne ho hb ht
theorem IsS132.fresh {w0 W : World} {g : Nat} {f0 : Int} {f1 : Int} (h : IsS132 w0 W g f0 f1) : ∀ k, W.heap.size ≤ k → k ≠ g := by
  obtain ⟨hb, hg⟩ := h
  exact Kd.freshB hb
theorem IsS132.kept {w0 W : World} {g : Nat} {f0 : Int} {f1 : Int} {W1 : World} {S : Nat → Prop} (h : IsS132 w0 W g f0 f1) (hk : Kept W W1 S) (hne : ¬ S g) : IsS132 w0 W1 g f0 f1 := by
  obtain ⟨hb, hg⟩ := h
  exact ⟨blk_kept hb hk hne, hg⟩
theorem IsS132.below {w0 W : World} {g : Nat} {f0 : Int} {f1 : Int} {W1 : World} (h : IsS132 w0 W g f0 f1) (hw : Below W.heap.size W W1) : IsS132 w0 W1 g f0 f1 := h.grown (grown_of_below hw none) (by simp)
theorem IsS132.alloc {w0 W : World} {g : Nat} {f0 : Int} {f1 : Int} (h : IsS132 w0 W g f0 f1) (o : Obj) : IsS132 w0 (W.alloc o) g f0 f1 := h.below (below_alloc (Below.refl _ _) o)
theorem IsS132.drewN {w0 W : World} {g : Nat} {f0 : Int} {f1 : Int} (h : IsS132 w0 W g f0 f1) (m : Nat) : IsS132 w0 (W.drewN m) g f0 f1 := h
theorem IsS132.drew {w0 W : World} {g : Nat} {f0 : Int} {f1 : Int} (h : IsS132 w0 W g f0 f1) : IsS132 w0 W.drew g f0 f1 := h
theorem IsS132.at_ {w0 W : World} {g : Nat} {f0 : Int} {f1 : Int} {w' : World} {m : Nat} (hq : W.drewN m = w') (h : IsS132 w0 W g f0 f1) : IsS132 w0 w' g f0 f1 := by subst hq; exact IsS132.drewN h m
theorem IsS132.apart {w0 W : World} {g : Nat} {f0 : Int} {f1 : Int} {α : Type} {d : Kd α} {e : Nat} {base : Nat} {ok : Nat → Prop} {v : Value} {xs : List α} (h : IsS132 w0 W g f0 f1) (ho : d.R e W base ok v xs) (ht : ∀ q, q ∈ e :: d.E → q ≠ 132) : d.R e W base (fun k => ok k ∧ k ≠ g) v xs := by
  obtain ⟨hb, hg⟩ := h
  exact Kd.R_types ho hb ht
theorem IsS132.own_ne {w0 W : World} {g : Nat} {f0 : Int} {f1 : Int} {α : Type} {d : Kd α} {e : Nat} {base : Nat} {ok : Nat → Prop} {v : Value} {xs : List α} (h : IsS132 w0 W g f0 f1) (ho : d.R e W base ok v xs) (ht : e ≠ 132) : some g ≠ v.ownBlock := by
  obtain ⟨hb, hg⟩ := h
  exact Kd.R_ne ho hb ht
theorem IsS132.apartQ {w0 W : World} {g : Nat} {f0 : Int} {f1 : Int} {α : Type} {d : Kd α} {e : Nat} {base : Nat} {ok : Nat → Prop} {v : Value} {xs : List α} (h : IsS132 w0 W g f0 f1) (ho : d.Q e W base ok v xs) (ht : ∀ q, q ∈ e :: d.E → q ≠ 132) : d.Q e W base (fun k => ok k ∧ k ≠ g) v xs := by
  obtain ⟨hb, hg⟩ := h
  exact Kd.Q_types ho hb ht
theorem IsS132.own_neQ {w0 W : World} {g : Nat} {f0 : Int} {f1 : Int} {α : Type} {d : Kd α} {e : Nat} {base : Nat} {ok : Nat → Prop} {v : Value} {xs : List α} (h : IsS132 w0 W g f0 f1) (ho : d.Q e W base ok v xs) (ht : e ≠ 132) : some g ≠ v.ownBlock := by
  obtain ⟨hb, hg⟩ := h
  exact Kd.Q_ne ho hb ht
theorem IsS132.apartS {w0 W : World} {g : Nat} {f0 : Int} {f1 : Int} {α : Type} {d : Kd α} {e : Nat} {base : Nat} {ok : Nat → Prop} {v : Value} {xs : List α} (h : IsS132 w0 W g f0 f1) (ho : d.S e W base ok v xs) (ht : ∀ q, q ∈ e :: d.E → q ≠ 132) : d.S e W base (fun k => ok k ∧ k ≠ g) v xs := by
  obtain ⟨hb, hg⟩ := h
  exact Kd.S_types ho hb ht
theorem IsS132.own_neS {w0 W : World} {g : Nat} {f0 : Int} {f1 : Int} {α : Type} {d : Kd α} {e : Nat} {base : Nat} {ok : Nat → Prop} {v : Value} {xs : List α} (h : IsS132 w0 W g f0 f1) (ho : d.S e W base ok v xs) (ht : e ≠ 132) : some g ≠ v.ownBlock := by
  obtain ⟨hb, hg⟩ := h
  exact Kd.S_ne ho hb ht
theorem IsS132.lt {w0 W : World} {g : Nat} {f0 : Int} {f1 : Int} (h : IsS132 w0 W g f0 f1) : g < W.heap.size := by
  obtain ⟨hb, hg⟩ := h
  exact blk_lt hb
theorem IsS132.ge {w0 W : World} {g : Nat} {f0 : Int} {f1 : Int} (h : IsS132 w0 W g f0 f1) : w0.heap.size ≤ g := by
  obtain ⟨hb, hg⟩ := h
  exact hg
theorem IsS132.ne_blk {w0 W : World} {g : Nat} {f0 : Int} {f1 : Int} {a : Nat} {cs : Array Value} {t : TypeId} {fr : Nat × Nat} (h : IsS132 w0 W g f0 f1) (hb2 : W.heap[a]? = some (.cells cs t fr)) (ht : t ≠ 132) : g ≠ a := by
  obtain ⟨hb, hg⟩ := h
  rintro rfl
  rw [hb] at hb2
  injection hb2 with hb2
  injection hb2 with _ ht2
  exact ht ht2.symm
theorem IsS132.far {w0 W : World} {g : Nat} {f0 : Int} {f1 : Int} {p : Addr} (h : IsS132 w0 W g f0 f1) (hne : g ≠ p.block) (u : Value) : IsS132 w0 (W.setCell p u) g f0 f1 := by
  obtain ⟨hb, hg⟩ := h
  exact ⟨blk_far hb hne u, hg⟩
theorem cellS132_0 {W : World} {g : Nat} {f0 : Int} {f1 : Int} (h : W.heap[g]? = some (.cells #[.int .i64 f0, .int .i64 f1] 132 (0, 0))) : W.cell? ⟨g, 0, none⟩ = some (.int .i64 f0) := (blk_cell h 0).trans rfl
theorem IsS132.set_0 {w0 W : World} {g : Nat} {f0 : Int} {f1 : Int} (h : IsS132 w0 W g f0 f1) (x : Int) : IsS132 w0 (W.setCell ⟨g, 0, none⟩ (.int .i64 x)) g x f1 := by
  obtain ⟨hb, hg⟩ := h
  exact ⟨by simpa using blk_set hb 0 (.int .i64 x), hg⟩
theorem cellS132_1 {W : World} {g : Nat} {f0 : Int} {f1 : Int} (h : W.heap[g]? = some (.cells #[.int .i64 f0, .int .i64 f1] 132 (0, 0))) : W.cell? ⟨g, 1, none⟩ = some (.int .i64 f1) := (blk_cell h 1).trans rfl
theorem IsS132.set_1 {w0 W : World} {g : Nat} {f0 : Int} {f1 : Int} (h : IsS132 w0 W g f0 f1) (x : Int) : IsS132 w0 (W.setCell ⟨g, 1, none⟩ (.int .i64 x)) g f0 x := by
  obtain ⟨hb, hg⟩ := h
  exact ⟨by simpa using blk_set hb 1 (.int .i64 x), hg⟩
theorem IsS132.new (w0 W : World) (f0 : Int) (f1 : Int) (hB : Below w0.heap.size w0 W) : IsS132 w0 (W.alloc (.cells #[.int .i64 f0, .int .i64 f1] 132)) W.heap.size f0 f1 := ⟨by simpa using heap_alloc_new W _, hB.size⟩

/-! ### timer_Timer_Tick: function 36 -/
def timer_Timer_Tick.f (s0_0 : Int) (s0_1 : Int) : Option (Bool × Int × Int) := some (((mx (wrap64 (s0_1 - 1)) 0) == 0), s0_0, mx (wrap64 (s0_1 - 1)) 0)
set_option maxHeartbeats 8000000 in
set_option maxRecDepth 100000 in
theorem timer_Timer_Tick.calls (g : Nat) (s0_0 : Int) (s0_1 : Int) (r1 : Bool) (r2 : Int) (r3 : Int) (w0 w : World) (hI : IsS132 w0 w g s0_0 s0_1) (hB : Below w0.heap.size w0 w) (h : timer_Timer_Tick.f s0_0 s0_1 = some (r1, r2, r3)) :
    Calls Try.prog 36 #[.pointer (some ⟨g, 0, none⟩)] w fun e w' => e = .returned (.bool r1) ∧ IsS132 w0 w' g r2 r3 ∧ Below w0.heap.size w0 w' ∧ KeepBut w w' g none := by
  have HI0 := Aside0.mk hI
  have HK := Aside0.mk (KeepBut.refl w g none)
  have HL := Aside0.mk hB.size
  clear hI
  have HW0 := Aside0.mk hB.size
  have HB := Aside0.mk hB
  clear hB
  have H : (some (((mx (wrap64 (s0_1 - 1)) 0) == 0), s0_0, mx (wrap64 (s0_1 - 1)) 0)) = some (r1, r2, r3) := h
  clear h
  obtain ⟨ji2, hji2⟩ : ∃ j_ : Int, (mx (wrap64 (s0_1 - 1)) 0) = j_ := ⟨_, rfl⟩
  replace H : (some (((ji2) == 0), s0_0, ji2)) = some (r1, r2, r3) := by first | (rw [hji2] at H; exact H) | (simp only [hji2] at H ⊢; exact H)
  (try (have hji2l : 0 ≤ ji2 := by (rw [← hji2]; unfold mx; (repeat' split) <;> omega)))
  (try (have hji2m : 0 ≤ ji2 := by omega))
  have hji2_ : (if (wrap64 (s0_1 - 1)) < 0 then 0 else (wrap64 (s0_1 - 1))) = ji2 := hji2
  simp only [Option.some.injEq, Prod.mk.injEq] at H
  obtain ⟨rfl, rfl, rfl⟩ := H
  obtain ⟨HGz3, hgz3⟩ := HI0.out
  have hcz3_0 := cellS132_0 HGz3
  have hcz3_1 := cellS132_1 HGz3
  have hfz3_0 := blk_frozen HGz3 0
  have hfz3_1 := blk_frozen HGz3 1
  clear HGz3 hgz3
  go_enter Try.func36, Try.ntmps36
  go_wp2
  go_ret
  exact ⟨by first | rfl | (simp [errW_none, errW_some] <;> rfl) | (simp only [← hji2]; first | rfl | (simp [errW_none, errW_some] <;> rfl)) | (simp [*, errW_none, errW_some] <;> rfl), by repeat (first | (with_reducible first | exact HI0.out | apply IsS132.alloc | apply IsS132.drewN | apply IsS132.drew | apply IsS132.set_0 | apply IsS132.set_1) | exact HI0.out), by repeat (first | (with_reducible first | exact HB.out | apply below_alloc | apply pw_below_drewN | apply below_drew1 | refine below_set ?_ (IsS132.ge HI0.out)) | exact HB.out), by repeat (first | (with_reducible first | exact HK.out | apply KeepBut.set_ | apply keep_drewN | apply keep_drew | apply keep_alloc) | exact HK.out)⟩

-- NOT PRINTED: function 28 (echelonlaw10_awake)

/-- A state of type 50 at block g of W; what its slices lead to came in by w0. -/
def IsS50 (w0 W : World) (g : Nat) (f0 : List (S126)) : Prop := ∃ A0 c0, W.heap[g]? = some (.cells #[.slice A0 f0.length c0] 50 (0, 0)) ∧ w0.heap.size ≤ g ∧ Kd.C k126 w0 A0 f0.length f0
theorem IsS50.grown {w0 W : World} {g : Nat} {f0 : List (S126)} {W1 : World} {row : Option Nat} (h : IsS50 w0 W g f0) (hw : W.grownBy W1 row) (hne : some g ≠ row) : IsS50 w0 W1 g f0 := by
  obtain ⟨A0, c0, hb, hg, hr0⟩ := h
  exact ⟨A0, c0, blk_grown hb hw hne, hg, hr0⟩
theorem IsS50.own_neN {w0 W : World} {g : Nat} {f0 : List (S126)} {α : Type} {d : Kd α} {e : Nat} {base : Nat} {ok : Nat → Prop} {v : Value} {xs : List α} (h : IsS50 w0 W g f0) (ho : Kd.N d e W base ok v xs) (ht : e ≠ 50) : some g ≠ v.ownBlock := by
  obtain ⟨A0, c0, hb, hg, hr0⟩ := h
  exact Kd.N_ne ho hb ht
theorem IsS50.fresh {w0 W : World} {g : Nat} {f0 : List (S126)} (h : IsS50 w0 W g f0) : ∀ k, W.heap.size ≤ k → k ≠ g := by
  obtain ⟨A0, c0, hb, hg, hr0⟩ := h
  exact Kd.freshB hb
theorem IsS50.kept {w0 W : World} {g : Nat} {f0 : List (S126)} {W1 : World} {S : Nat → Prop} (h : IsS50 w0 W g f0) (hk : Kept W W1 S) (hne : ¬ S g) : IsS50 w0 W1 g f0 := by
  obtain ⟨A0, c0, hb, hg, hr0⟩ := h
  exact ⟨A0, c0, blk_kept hb hk hne, hg, hr0⟩
theorem IsS50.below {w0 W : World} {g : Nat} {f0 : List (S126)} {W1 : World} (h : IsS50 w0 W g f0) (hw : Below W.heap.size W W1) : IsS50 w0 W1 g f0 := h.grown (grown_of_below hw none) (by simp)
theorem IsS50.alloc {w0 W : World} {g : Nat} {f0 : List (S126)} (h : IsS50 w0 W g f0) (o : Obj) : IsS50 w0 (W.alloc o) g f0 := h.below (below_alloc (Below.refl _ _) o)
theorem IsS50.drewN {w0 W : World} {g : Nat} {f0 : List (S126)} (h : IsS50 w0 W g f0) (m : Nat) : IsS50 w0 (W.drewN m) g f0 := h
theorem IsS50.drew {w0 W : World} {g : Nat} {f0 : List (S126)} (h : IsS50 w0 W g f0) : IsS50 w0 W.drew g f0 := h
theorem IsS50.at_ {w0 W : World} {g : Nat} {f0 : List (S126)} {w' : World} {m : Nat} (hq : W.drewN m = w') (h : IsS50 w0 W g f0) : IsS50 w0 w' g f0 := by subst hq; exact IsS50.drewN h m
theorem IsS50.apart {w0 W : World} {g : Nat} {f0 : List (S126)} {α : Type} {d : Kd α} {e : Nat} {base : Nat} {ok : Nat → Prop} {v : Value} {xs : List α} (h : IsS50 w0 W g f0) (ho : d.R e W base ok v xs) (ht : ∀ q, q ∈ e :: d.E → q ≠ 50) : d.R e W base (fun k => ok k ∧ k ≠ g) v xs := by
  obtain ⟨A0, c0, hb, hg, hr0⟩ := h
  exact Kd.R_types ho hb ht
theorem IsS50.own_ne {w0 W : World} {g : Nat} {f0 : List (S126)} {α : Type} {d : Kd α} {e : Nat} {base : Nat} {ok : Nat → Prop} {v : Value} {xs : List α} (h : IsS50 w0 W g f0) (ho : d.R e W base ok v xs) (ht : e ≠ 50) : some g ≠ v.ownBlock := by
  obtain ⟨A0, c0, hb, hg, hr0⟩ := h
  exact Kd.R_ne ho hb ht
theorem IsS50.apartQ {w0 W : World} {g : Nat} {f0 : List (S126)} {α : Type} {d : Kd α} {e : Nat} {base : Nat} {ok : Nat → Prop} {v : Value} {xs : List α} (h : IsS50 w0 W g f0) (ho : d.Q e W base ok v xs) (ht : ∀ q, q ∈ e :: d.E → q ≠ 50) : d.Q e W base (fun k => ok k ∧ k ≠ g) v xs := by
  obtain ⟨A0, c0, hb, hg, hr0⟩ := h
  exact Kd.Q_types ho hb ht
theorem IsS50.own_neQ {w0 W : World} {g : Nat} {f0 : List (S126)} {α : Type} {d : Kd α} {e : Nat} {base : Nat} {ok : Nat → Prop} {v : Value} {xs : List α} (h : IsS50 w0 W g f0) (ho : d.Q e W base ok v xs) (ht : e ≠ 50) : some g ≠ v.ownBlock := by
  obtain ⟨A0, c0, hb, hg, hr0⟩ := h
  exact Kd.Q_ne ho hb ht
theorem IsS50.apartS {w0 W : World} {g : Nat} {f0 : List (S126)} {α : Type} {d : Kd α} {e : Nat} {base : Nat} {ok : Nat → Prop} {v : Value} {xs : List α} (h : IsS50 w0 W g f0) (ho : d.S e W base ok v xs) (ht : ∀ q, q ∈ e :: d.E → q ≠ 50) : d.S e W base (fun k => ok k ∧ k ≠ g) v xs := by
  obtain ⟨A0, c0, hb, hg, hr0⟩ := h
  exact Kd.S_types ho hb ht
theorem IsS50.own_neS {w0 W : World} {g : Nat} {f0 : List (S126)} {α : Type} {d : Kd α} {e : Nat} {base : Nat} {ok : Nat → Prop} {v : Value} {xs : List α} (h : IsS50 w0 W g f0) (ho : d.S e W base ok v xs) (ht : e ≠ 50) : some g ≠ v.ownBlock := by
  obtain ⟨A0, c0, hb, hg, hr0⟩ := h
  exact Kd.S_ne ho hb ht
theorem IsS50.lt {w0 W : World} {g : Nat} {f0 : List (S126)} (h : IsS50 w0 W g f0) : g < W.heap.size := by
  obtain ⟨A0, c0, hb, hg, hr0⟩ := h
  exact blk_lt hb
theorem IsS50.ge {w0 W : World} {g : Nat} {f0 : List (S126)} (h : IsS50 w0 W g f0) : w0.heap.size ≤ g := by
  obtain ⟨A0, c0, hb, hg, hr0⟩ := h
  exact hg
theorem IsS50.ne_blk {w0 W : World} {g : Nat} {f0 : List (S126)} {a : Nat} {cs : Array Value} {t : TypeId} {fr : Nat × Nat} (h : IsS50 w0 W g f0) (hb2 : W.heap[a]? = some (.cells cs t fr)) (ht : t ≠ 50) : g ≠ a := by
  obtain ⟨A0, c0, hb, hg, hr0⟩ := h
  rintro rfl
  rw [hb] at hb2
  injection hb2 with hb2
  injection hb2 with _ ht2
  exact ht ht2.symm
theorem IsS50.far {w0 W : World} {g : Nat} {f0 : List (S126)} {p : Addr} (h : IsS50 w0 W g f0) (hne : g ≠ p.block) (u : Value) : IsS50 w0 (W.setCell p u) g f0 := by
  obtain ⟨A0, c0, hb, hg, hr0⟩ := h
  exact ⟨A0, c0, blk_far hb hne u, hg, hr0⟩
theorem cellS50_0 {W : World} {g : Nat} {A0 : Option Addr} {c0 : Nat} {f0 : List (S126)} (h : W.heap[g]? = some (.cells #[.slice A0 f0.length c0] 50 (0, 0))) : W.cell? ⟨g, 0, none⟩ = some (.slice A0 f0.length c0) := (blk_cell h 0).trans rfl
theorem IsS50.new (w0 W : World) (A0 : Option Addr) (c0 : Nat) (f0 : List (S126)) (hB : Below w0.heap.size w0 W) (hr0 : Kd.C k126 w0 A0 f0.length f0) : IsS50 w0 (W.alloc (.cells #[.slice A0 f0.length c0] 50)) W.heap.size f0 := ⟨A0, c0, by simpa using heap_alloc_new W _, hB.size, hr0⟩

/-! ### timer_Alarms_Len: function 31 -/
def timer_Alarms_Len.f (s0_0 : List (S126)) : Option (Int) := some (s0_0.length : Int)
set_option maxHeartbeats 8000000 in
set_option maxRecDepth 100000 in
theorem timer_Alarms_Len.calls (g : Nat) (s0_0 : List (S126)) (r : Int) (w0 w : World) (hI : IsS50 w0 w g s0_0) (hB : Below w0.heap.size w0 w) (h : timer_Alarms_Len.f s0_0 = some r) :
    Calls Try.prog 31 #[.pointer (some ⟨g, 0, none⟩)] w fun e w' => e = .returned (.int .i64 r) ∧ IsS50 w0 w' g s0_0 ∧ Below w0.heap.size w0 w' ∧ KeepBut w w' g none := by
  have HI0 := Aside0.mk hI
  have HK := Aside0.mk (KeepBut.refl w g none)
  have HL := Aside0.mk hB.size
  clear hI
  have HW0 := Aside0.mk hB.size
  have HB := Aside0.mk hB
  clear hB
  have H : (some (s0_0.length : Int)) = some r := h
  clear h
  obtain rfl := Option.some.inj H
  obtain ⟨ASz2_0, cSz2_0, HGz2, hgz2, HSz2_0⟩ := HI0.out
  have hcz2_0 := cellS50_0 HGz2
  clear HGz2 hgz2
  go_enter Try.func31, Try.ntmps31
  go_wp2
  go_ret
  exact ⟨by first | rfl | (simp [errW_none, errW_some] <;> rfl) | (simp [*, errW_none, errW_some] <;> rfl), by repeat (first | (with_reducible first | exact HI0.out | apply IsS50.alloc | apply IsS50.drewN | apply IsS50.drew) | exact HI0.out), by repeat (first | (with_reducible first | exact HB.out | apply below_alloc | apply pw_below_drewN | apply below_drew1 | refine below_set ?_ (IsS50.ge HI0.out)) | exact HB.out), by repeat (first | (with_reducible first | exact HK.out | apply KeepBut.set_ | apply keep_drewN | apply keep_drew | apply keep_alloc) | exact HK.out)⟩

/-! ### echelonref10_Clear: function 39 -/
def echelonref10_Clear.l0 : Nat → List (S70) → Int → List (S70) → Int → Option ((List (S70)))
  | 0, _, _, _, _ => none
  | k + 1, x0, x1, x5, x6 => if x6 < (x0.length : Int) then (if 0 ≤ x6 then (if ((rd_T70 x0 x6).f1) = x1 then (echelonref10_Clear.l0 k x0 x1 x5 (wrap64 (x6 + 1))) else (if x5.length < 8796093022208 then (echelonref10_Clear.l0 k x0 x1 (x5 ++ [(⟨(rd_T70 x0 x6).f0, (rd_T70 x0 x6).f1⟩ : S70)]) (wrap64 (x6 + 1))) else (none))) else (none)) else (some x5)
def echelonref10_Clear.f (k : Nat) (l0 : List (S70)) (a1 : Int) : Option ((List (S70))) := echelonref10_Clear.l0 k l0 a1 ([] : List (S70)) 0
theorem echelonref10_Clear.mono_l : ∀ k, (∀ y0 y1 y2 y3, LeO (echelonref10_Clear.l0 k y0 y1 y2 y3) (echelonref10_Clear.l0 (k + 1) y0 y1 y2 y3))
  | 0 => fun _ _ _ _ r h => by simp [echelonref10_Clear.l0] at h
  | k + 1 => by
    have ih0 := echelonref10_Clear.mono_l k
    · intro y0 y1 y2 y3
      unfold echelonref10_Clear.l0
      repeat' first
      | (with_reducible exact ih0 _ _ _ _)
      | (with_reducible exact LeO.refl _)
      | (with_reducible exact LeO.none _)
      | (with_reducible refine LeO.ite ?_ ?_)
      | (with_reducible refine LeO.bind ?_ (fun _ => ?_))
      | exact ih0 _ _ _ _
      | exact LeO.none _
      | refine LeO.ite ?_ ?_
      | refine LeO.bind ?_ (fun _ => ?_)
theorem echelonref10_Clear.mono : ∀ a0 a1 k, LeO (echelonref10_Clear.f k a0 a1) (echelonref10_Clear.f (k + 1) a0 a1) := by
  intro a0 a1 k
  have ih0 := echelonref10_Clear.mono_l k
  unfold echelonref10_Clear.f
  repeat' first
      | (with_reducible exact ih0 _ _ _ _)
      | (with_reducible exact LeO.refl _)
      | (with_reducible exact LeO.none _)
      | (with_reducible refine LeO.ite ?_ ?_)
      | (with_reducible refine LeO.bind ?_ (fun _ => ?_))
      | exact ih0 _ _ _ _
      | exact LeO.none _
      | refine LeO.ite ?_ ?_
      | refine LeO.bind ?_ (fun _ => ?_)
set_option maxHeartbeats 8000000 in
set_option maxRecDepth 100000 in
theorem echelonref10_Clear.calls (k : Nat) (A0 : Option Addr) (c0 : Nat) (l0 : List (S70)) (a1 : Int) (r : List (S70)) (w : World) (hr0 : Kd.C k70 w A0 l0.length l0) (hc0 : l0.length ≤ c0) (h : echelonref10_Clear.f k l0 a1 = some r) :
    Calls Try.prog 39 #[.slice A0 l0.length c0, .int .i64 a1] w fun e w' => ∃ v0_ : Value, e = .returned (v0_) ∧ Kd.R k70 70 w' w.heap.size (fun _ => True) v0_ r ∧ Below w.heap.size w w' := by
  have hu70 := Try.underlying70
  have HR0 := Aside0.mk hr0
  have HC0 := Aside0.mk hc0
  clear hr0 hc0
  have HB := Aside0.mk (Below.refl w.heap.size w)
  have H : (echelonref10_Clear.l0 k l0 a1 ([] : List (S70)) 0) = some r := h
  clear h
  have H' := Aside0.mk H
  clear H
  go_enter Try.func39, Try.ntmps39
  go_wp2
  go_loopg [5, 6] k (fun kq v5 v6 w' => ∃ (x5_1 : List (S70)) (x6_1 : Int), v6 = .int .i64 x6_1 ∧ Aside0 (echelonref10_Clear.l0 kq l0 a1 x5_1 x6_1 = some r) ∧ Aside0 (kq ≤ k) ∧ Aside0 (Kd.R k70 70 w' w.heap.size (fun _ => True) v5 x5_1) ∧ Aside0 (Below w.heap.size w w'))
  case atStart => exact ⟨(([] : List (S70))), (0), (by first | rfl | (simp; done) | (simp [*]; done)), H', ⟨Nat.le_refl _⟩, ⟨by first | exact Kd.R_nil _ _ _ _ _ | exact Kd.N_nil _ _ _ _ _ | exact Kd.V_nil _ _ _ _ _ | exact Kd.Q_nil _ _ _ _ _ | exact Kd.S_nil _ _ _ _ _⟩, ⟨by repeat (first | (with_reducible first | exact HB.out | apply below_alloc | apply pw_below_drewN | apply below_drew1) | exact HB.out)⟩⟩
  case round =>
    clear H'
    try clear p2
    obtain ⟨x5_1, x6_1, rfl, HA, HK1, HO_5, HB⟩ := hrel
    cases gk with
    | zero => exact absurd HA.out (by simp [echelonref10_Clear.l0])
    | succ k1 =>
      have H := HA.out
      clear HA
      simp only [echelonref10_Clear.l0] at H
      by_cases c3 : x6_1 < (l0.length : Int)
      · rw [if_pos c3] at H
        have c3b0 : decide (x6_1 < (l0.length : Int)) = true := decide_eq_true c3
        clear c3
        by_cases c4 : 0 ≤ x6_1
        · rw [if_pos c4] at H
          have c4b0 : decide (0 ≤ x6_1) = true := decide_eq_true c4
          clear c4
          by_cases c5 : ((rd_T70 l0 x6_1).f1) = a1
          · rw [if_pos c5] at H
            have c5b0 : (((rd_T70 l0 x6_1).f1) == a1) = true := beq_iff_eq.mpr c5
            have c5b1 : (((rd_T70 l0 x6_1).f1) != a1) = false := bne_eq_false_iff_eq.mpr c5
            clear c5
            have H' := Aside0.mk H
            clear H
            have p107 : 0 ≤ (x6_1 : Int) := of_decide_eq_true (by first | (with_reducible assumption) | assumption)
            have q107 : x6_1 < (l0.length : Int) := of_decide_eq_true (by first | (with_reducible assumption) | assumption)
            obtain ⟨ad107, e107, hx107_0, hx107_1⟩ := at_T70 HR0.out x6_1 p107 q107
            cases e107
            replace hx107_0 := (HB.out.cell (World.block_lt_of_cell? w _ hx107_0)).trans hx107_0
            replace hx107_1 := (HB.out.cell (World.block_lt_of_cell? w _ hx107_1)).trans hx107_1
            replace p107 := eq_true p107
            replace q107 := eq_true q107
            go_wp2
            go_roundg k1
            case measure => have := HK1.out; omega
            case rel => exact ⟨(x5_1), (wrap64 (x6_1 + 1)), (by first | rfl | (simp; done) | (simp [*]; done)), H', ⟨by have := HK1.out; omega⟩, ⟨by (with_reducible repeat (first | apply Kd.R_alloc | apply Kd.R_drewN | apply Kd.R_drew)); exact HO_5.out⟩, ⟨by repeat (first | (with_reducible first | exact HB.out | apply below_alloc | apply pw_below_drewN | apply below_drew1) | exact HB.out)⟩⟩
          · rw [if_neg c5] at H
            have c5b0 : (((rd_T70 l0 x6_1).f1) == a1) = false := beq_eq_false_iff_ne.mpr c5
            have c5b1 : (((rd_T70 l0 x6_1).f1) != a1) = true := bne_iff_ne.mpr c5
            by_cases c6 : x5_1.length < 8796093022208
            · rw [if_pos c6] at H
              have LMc6 := Aside0.mk c6
              clear c6
              obtain ⟨y109, hy109⟩ : ∃ y_ : List (S70), y_ = (x5_1 ++ [(⟨(rd_T70 l0 x6_1).f0, (rd_T70 l0 x6_1).f1⟩ : S70)]) := ⟨_, rfl⟩
              replace H : (echelonref10_Clear.l0 k1 l0 a1 y109 (wrap64 (x6_1 + 1))) = some r := by first | (rw [hy109]; with_reducible exact H) | (have H2_ := (Option.bind_some _ _).symm.trans H; rw [hy109]; with_reducible exact H2_) | (have H2_ := (Option.bind_some _ _).symm.trans H; with_reducible exact H2_) | with_reducible exact H | (rw [hy109]; exact H) | exact H
              have Ny109 := Aside0.mk hy109
              clear hy109
              have H' := Aside0.mk H
              clear H
              have p107 : 0 ≤ (x6_1 : Int) := of_decide_eq_true (by first | (with_reducible assumption) | assumption)
              have q107 : x6_1 < (l0.length : Int) := of_decide_eq_true (by first | (with_reducible assumption) | assumption)
              obtain ⟨ad107, e107, hx107_0, hx107_1⟩ := at_T70 HR0.out x6_1 p107 q107
              cases e107
              replace hx107_0 := (HB.out.cell (World.block_lt_of_cell? w _ hx107_0)).trans hx107_0
              replace hx107_1 := (HB.out.cell (World.block_lt_of_cell? w _ hx107_1)).trans hx107_1
              replace p107 := eq_true p107
              replace q107 := eq_true q107
              have p108 : 0 ≤ (x6_1 : Int) := of_decide_eq_true (by first | (with_reducible assumption) | assumption)
              have q108 : x6_1 < (l0.length : Int) := of_decide_eq_true (by first | (with_reducible assumption) | assumption)
              obtain ⟨ad108, e108, hx108_0, hx108_1⟩ := at_T70 HR0.out x6_1 p108 q108
              obtain rfl : ad107 = ad108 := (by injection e108)
              replace hx108_0 := (HB.out.cell (World.block_lt_of_cell? w _ hx108_0)).trans hx108_0
              replace hx108_1 := (HB.out.cell (World.block_lt_of_cell? w _ hx108_1)).trans hx108_1
              replace p108 := eq_true p108
              replace q108 := eq_true q108
              go_wp2_with (first | ((with_reducible refine gate_builtin (b := .append) (xs := #[.tmp 20, .tmp 25]) rfl ?_); at_builtin; refine Kd.R_append k70 (w0 := w) w.heap.size rfl (.tmp 20) (.tmp 25) 63 70 (.agg #[(.int .i64 0), (.int .i64 0)]) 16 rfl Try.underlying63 info70 rfl (by decide) (by omega) u5 x5_1 (⟨(rd_T70 l0 x6_1).f0, (rd_T70 l0 x6_1).f1⟩ : S70) [.int .i64 ((rd_T70 l0 x6_1).f0), .int .i64 ((rd_T70 l0 x6_1).f1)] (fun _ => True) (fun _ => False) rfl rfl ?aP (fun _ hk => hk.elim) ?aF ?aO ?aB ?aS ?aL ?_; (case aP => exact k70_mkM _ _ _ (⟨(rd_T70 l0 x6_1).f0, (rd_T70 l0 x6_1).f1⟩ : S70)); (case aB => exact (by repeat (first | (with_reducible first | exact HB.out | apply below_alloc | apply pw_below_drewN | apply below_drew1) | exact HB.out))); (case aF => exact (fun _ _ => trivial)); (case aO => exact (by (with_reducible repeat (first | apply Kd.R_alloc | apply Kd.R_drewN | apply Kd.R_drew)); exact HO_5.out)); (case aS => exact (below_size (by repeat (first | (with_reducible first | exact HB.out | apply below_alloc | apply pw_below_drewN | apply below_drew1) | exact HB.out)))); (case aL => have := LMc6.out; omega); intro v110 w7 ho hb hg hat; rw [← Ny109.out] at ho; have n0_ := Aside0.mk (hb); have n1_ := Aside0.mk (ho); clear HB; clear HO_5; have HB := n0_; have HO111 := n1_; clear n0_ n1_; clear ho hb hg hat))
              go_roundg k1
              case measure => have := HK1.out; omega
              case rel => exact ⟨(y109), (wrap64 (x6_1 + 1)), (by first | rfl | (simp; done) | (simp [*]; done)), H', ⟨by have := HK1.out; omega⟩, ⟨by (with_reducible repeat (first | apply Kd.R_alloc | apply Kd.R_drewN | apply Kd.R_drew)); exact HO111.out⟩, ⟨by repeat (first | (with_reducible first | exact HB.out | apply below_alloc | apply pw_below_drewN | apply below_drew1) | exact HB.out)⟩⟩
            · rw [if_neg c6] at H
              exact absurd H (by simp)
        · rw [if_neg c4] at H
          exact absurd H (by simp)
      · rw [if_neg c3] at H
        have c3b0 : decide (x6_1 < (l0.length : Int)) = false := decide_eq_false c3
        clear c3
        obtain rfl := Option.some.inj H
        go_wp2
        go_ret
        exact ⟨_, by first | rfl | (simp [errW_none, errW_some] <;> rfl) | (simp [*, errW_none, errW_some] <;> rfl), by (with_reducible repeat (first | apply Kd.R_alloc | apply Kd.R_drewN | apply Kd.R_drew)); exact HO_5.out, by repeat (first | (with_reducible first | exact HB.out | apply below_alloc | apply pw_below_drewN | apply below_drew1) | exact HB.out)⟩

/-! ### echelonref10_Set: function 37 -/
def echelonref10_Set.l0 : Nat → List (S70) → Int → Int → List (S70) → Bool → Int → Option ((List (S70)))
  | 0, _, _, _, _, _, _ => none
  | k + 1, x0, x1, x2, x7, x8, x9 => if x9 < (x0.length : Int) then (if x8 = true then (if 0 ≤ x9 then (if x7.length < 8796093022208 then (echelonref10_Set.l0 k x0 x1 x2 (x7 ++ [(⟨(rd_T70 x0 x9).f0, (rd_T70 x0 x9).f1⟩ : S70)]) x8 (wrap64 (x9 + 1))) else (none)) else (none)) else (if 0 ≤ x9 then (if ((rd_T70 x0 x9).f0) > x1 then (if x7.length < 8796093022208 then ((some (x7 ++ [(⟨x1, x2⟩ : S70)] : List (S70))).bind fun y120 => (if y120.length < 8796093022208 then (echelonref10_Set.l0 k x0 x1 x2 (y120 ++ [(⟨(rd_T70 x0 x9).f0, (rd_T70 x0 x9).f1⟩ : S70)]) true (wrap64 (x9 + 1))) else (none))) else (none)) else (if ((rd_T70 x0 x9).f0) = x1 then (if ((rd_T70 x0 x9).f1) > x2 then (if x7.length < 8796093022208 then ((some (x7 ++ [(⟨x1, x2⟩ : S70)] : List (S70))).bind fun y129 => (if y129.length < 8796093022208 then (echelonref10_Set.l0 k x0 x1 x2 (y129 ++ [(⟨(rd_T70 x0 x9).f0, (rd_T70 x0 x9).f1⟩ : S70)]) true (wrap64 (x9 + 1))) else (none))) else (none)) else (if x7.length < 8796093022208 then (echelonref10_Set.l0 k x0 x1 x2 (x7 ++ [(⟨(rd_T70 x0 x9).f0, (rd_T70 x0 x9).f1⟩ : S70)]) x8 (wrap64 (x9 + 1))) else (none))) else (if x7.length < 8796093022208 then (echelonref10_Set.l0 k x0 x1 x2 (x7 ++ [(⟨(rd_T70 x0 x9).f0, (rd_T70 x0 x9).f1⟩ : S70)]) x8 (wrap64 (x9 + 1))) else (none)))) else (none))) else (if x8 = true then (some x7) else (if x7.length < 8796093022208 then (some (x7 ++ [(⟨x1, x2⟩ : S70)])) else (none)))
def echelonref10_Set.f (k : Nat) (l0 : List (S70)) (a1 : Int) (a2 : Int) : Option ((List (S70))) := (echelonref10_Clear.f k l0 a2).bind fun t112 => (echelonref10_Set.l0 k t112 a1 a2 ([] : List (S70)) false 0)
theorem echelonref10_Set.mono_l : ∀ k, (∀ y0 y1 y2 y3 y4 y5, LeO (echelonref10_Set.l0 k y0 y1 y2 y3 y4 y5) (echelonref10_Set.l0 (k + 1) y0 y1 y2 y3 y4 y5))
  | 0 => fun _ _ _ _ _ _ r h => by simp [echelonref10_Set.l0] at h
  | k + 1 => by
    have ih0 := echelonref10_Set.mono_l k
    · intro y0 y1 y2 y3 y4 y5
      unfold echelonref10_Set.l0
      repeat' first
      | (with_reducible exact ih0 _ _ _ _ _ _)
      | (with_reducible exact echelonref10_Clear.mono _ _ _)
      | (with_reducible exact LeO.refl _)
      | (with_reducible exact LeO.none _)
      | (with_reducible refine LeO.ite ?_ ?_)
      | (with_reducible refine LeO.bind ?_ (fun _ => ?_))
      | exact ih0 _ _ _ _ _ _
      | exact echelonref10_Clear.mono _ _ _
      | exact LeO.none _
      | refine LeO.ite ?_ ?_
      | refine LeO.bind ?_ (fun _ => ?_)
theorem echelonref10_Set.mono : ∀ a0 a1 a2 k, LeO (echelonref10_Set.f k a0 a1 a2) (echelonref10_Set.f (k + 1) a0 a1 a2) := by
  intro a0 a1 a2 k
  have ih0 := echelonref10_Set.mono_l k
  unfold echelonref10_Set.f
  repeat' first
      | (with_reducible exact ih0 _ _ _ _ _ _)
      | (with_reducible exact echelonref10_Clear.mono _ _ _)
      | (with_reducible exact LeO.refl _)
      | (with_reducible exact LeO.none _)
      | (with_reducible refine LeO.ite ?_ ?_)
      | (with_reducible refine LeO.bind ?_ (fun _ => ?_))
      | exact ih0 _ _ _ _ _ _
      | exact echelonref10_Clear.mono _ _ _
      | exact LeO.none _
      | refine LeO.ite ?_ ?_
      | refine LeO.bind ?_ (fun _ => ?_)
set_option maxHeartbeats 8000000 in
set_option maxRecDepth 100000 in
theorem echelonref10_Set.calls (k : Nat) (A0 : Option Addr) (c0 : Nat) (l0 : List (S70)) (a1 : Int) (a2 : Int) (r : List (S70)) (w : World) (hr0 : Kd.C k70 w A0 l0.length l0) (hc0 : l0.length ≤ c0) (h : echelonref10_Set.f k l0 a1 a2 = some r) :
    Calls Try.prog 37 #[.slice A0 l0.length c0, .int .i64 a1, .int .i64 a2] w fun e w' => ∃ v0_ : Value, e = .returned (v0_) ∧ Kd.R k70 70 w' w.heap.size (fun _ => True) v0_ r ∧ Below w.heap.size w w' := by
  have hu70 := Try.underlying70
  have HR0 := Aside0.mk hr0
  have HC0 := Aside0.mk hc0
  clear hr0 hc0
  have HB := Aside0.mk (Below.refl w.heap.size w)
  have H : ((echelonref10_Clear.f k l0 a2).bind fun t112 => (echelonref10_Set.l0 k t112 a1 a2 ([] : List (S70)) false 0)) = some r := h
  clear h
  replace H := Option.bind_eq_some_iff.mp H
  obtain ⟨t112, A40, H⟩ := H
  replace H : (echelonref10_Set.l0 k t112 a1 a2 ([] : List (S70)) false 0) = some r := H
  have A4 := Aside0.mk A40
  clear A40
  have H' := Aside0.mk H
  clear H
  go_enter Try.func37, Try.ntmps37
  go_wp2_with (first | ((with_reducible refine gate_callee (f := 39) rfl ?_); refine goesL_ (some 12) rfl rfl Try.func39 (by kernel_rfl) rfl #[.slice A0 l0.length c0, .int .i64 a2] rfl (by (try simp only [List.map_toArray, List.map_cons, List.map_nil]); first | done | rfl | (simp only [List.length_drop, List.length_take]; rfl)) ?_; (with_reducible refine (echelonref10_Clear.calls k _ _ l0 a2 t112 _ ?side1 ?side2 A4.out).mono ?_); (case side1 => repeat (first | exact HR0.out | (with_reducible refine Kd.C_alloc ?_ _) | (with_reducible refine Kd.C_drewN ?_ _) | (with_reducible refine Kd.C_drew ?_))); (case side2 => exact HC0.out); rintro e w5 ⟨v113, rfl, ho0, hb⟩; refine ⟨_, rfl, ?_⟩; have n0_ := Aside0.mk (Kd.R_lower ho0 (below_size (by repeat (first | (with_reducible first | exact HB.out | apply below_alloc | apply pw_below_drewN | apply below_drew1) | exact HB.out)))); have n1_ := Aside0.mk (below_step (by repeat (first | (with_reducible first | exact HB.out | apply below_alloc | apply pw_below_drewN | apply below_drew1) | exact HB.out)) hb); clear HB; have HO114 := n0_; have HB := n1_; clear n0_ n1_; (try clear hb); (try clear hb2); (try clear hk); (try clear hi); (try clear ho0)))
  go_loopg [7, 8, 9] k (fun kq v7 v8 v9 w' => ∃ (x7_1 : List (S70)) (x8_1 : Bool) (x9_1 : Int), v8 = .bool x8_1 ∧ v9 = .int .i64 x9_1 ∧ Aside0 (echelonref10_Set.l0 kq t112 a1 a2 x7_1 x8_1 x9_1 = some r) ∧ Aside0 (kq ≤ k) ∧ Aside0 (Kd.R k70 70 w' w.heap.size (fun k_ => some k_ ≠ (v7 : Value).ownBlock) v113 t112) ∧ Aside0 (Kd.R k70 70 w' w.heap.size (fun k_ => some k_ ≠ (v113 : Value).ownBlock) v7 x7_1) ∧ Aside0 (Below w.heap.size w w'))
  case atStart => exact ⟨(([] : List (S70))), (false), (0), (by first | rfl | (simp; done) | (simp [*]; done)), (by first | rfl | (simp; done) | (simp [*]; done)), H', ⟨Nat.le_refl _⟩, ⟨by (with_reducible repeat (first | apply Kd.R_alloc | apply Kd.R_drewN | apply Kd.R_drew)); exact Kd.R_mono HO114.out (fun _ hk => (by simp [Value.ownBlock]))⟩, ⟨by first | exact Kd.R_nil _ _ _ _ _ | exact Kd.N_nil _ _ _ _ _ | exact Kd.V_nil _ _ _ _ _ | exact Kd.Q_nil _ _ _ _ _ | exact Kd.S_nil _ _ _ _ _⟩, ⟨by repeat (first | (with_reducible first | exact HB.out | apply below_alloc | apply pw_below_drewN | apply below_drew1) | exact HB.out)⟩⟩
  case round =>
    clear H'
    try clear p2
    try clear c3
    obtain ⟨x7_1, x8_1, x9_1, rfl, rfl, HA, HK1, HO_0, HO_7, HB⟩ := hrel
    cases gk with
    | zero => exact absurd HA.out (by simp [echelonref10_Set.l0])
    | succ k1 =>
      have H := HA.out
      clear HA
      simp only [echelonref10_Set.l0] at H
      by_cases c6 : x9_1 < (t112.length : Int)
      · rw [if_pos c6] at H
        have c6b0 : decide (x9_1 < (t112.length : Int)) = true := decide_eq_true c6
        clear c6
        by_cases c7 : x8_1 = true
        · subst c7
          have H1 : (if 0 ≤ x9_1 then (if x7_1.length < 8796093022208 then (echelonref10_Set.l0 k1 t112 a1 a2 (x7_1 ++ [(⟨(rd_T70 t112 x9_1).f0, (rd_T70 t112 x9_1).f1⟩ : S70)]) true (wrap64 (x9_1 + 1))) else (none)) else (none)) = some r := by rw [if_pos rfl] at H; exact H
          clear H
          have H := H1
          clear H1
          by_cases c8 : 0 ≤ x9_1
          · rw [if_pos c8] at H
            have c8b0 : decide (0 ≤ x9_1) = true := decide_eq_true c8
            clear c8
            by_cases c9 : x7_1.length < 8796093022208
            · rw [if_pos c9] at H
              have LMc9 := Aside0.mk c9
              clear c9
              obtain ⟨y116, hy116⟩ : ∃ y_ : List (S70), y_ = (x7_1 ++ [(⟨(rd_T70 t112 x9_1).f0, (rd_T70 t112 x9_1).f1⟩ : S70)]) := ⟨_, rfl⟩
              replace H : (echelonref10_Set.l0 k1 t112 a1 a2 y116 true (wrap64 (x9_1 + 1))) = some r := by first | (rw [hy116]; with_reducible exact H) | (have H2_ := (Option.bind_some _ _).symm.trans H; rw [hy116]; with_reducible exact H2_) | (have H2_ := (Option.bind_some _ _).symm.trans H; with_reducible exact H2_) | with_reducible exact H | (rw [hy116]; exact H) | exact H
              have Ny116 := Aside0.mk hy116
              clear hy116
              have H' := Aside0.mk H
              clear H
              obtain ⟨Ao10, co10, eo10⟩ := Kd.R_slice HO_0.out
              subst eo10
              have p115 : 0 ≤ (x9_1 : Int) := of_decide_eq_true (by first | (with_reducible assumption) | assumption)
              have q115 : x9_1 < (t112.length : Int) := of_decide_eq_true (by first | (with_reducible assumption) | assumption)
              obtain ⟨ad115, e115, hx115_0, hx115_1⟩ := at_T70 (Kd.R_reads' HO_0.out).2.2 x9_1 p115 q115
              cases e115
              replace p115 := eq_true p115
              replace q115 := eq_true q115
              go_wp2_with (first | ((with_reducible refine gate_builtin (b := .append) (xs := #[.tmp 54, .tmp 59]) rfl ?_); at_builtin; refine Kd.R_append k70 (w0 := w) w.heap.size rfl (.tmp 54) (.tmp 59) 63 70 (.agg #[(.int .i64 0), (.int .i64 0)]) 16 rfl Try.underlying63 info70 rfl (by decide) (by omega) u7 x7_1 (⟨(rd_T70 t112 x9_1).f0, (rd_T70 t112 x9_1).f1⟩ : S70) [.int .i64 ((rd_T70 t112 x9_1).f0), .int .i64 ((rd_T70 t112 x9_1).f1)] (fun k_ => some k_ ≠ (.slice (some ad115) t112.length co10 : Value).ownBlock) (fun _ => False) rfl rfl ?aP (fun _ hk => hk.elim) ?aF ?aO ?aB ?aS ?aL ?_; (case aP => exact k70_mkM _ _ _ (⟨(rd_T70 t112 x9_1).f0, (rd_T70 t112 x9_1).f1⟩ : S70)); (case aB => exact (by repeat (first | (with_reducible first | exact HB.out | apply below_alloc | apply pw_below_drewN | apply below_drew1) | exact HB.out))); (case aF => exact (fun k_ hk => Kd.fresh' (Kd.R_lt (by (with_reducible repeat (first | apply Kd.R_alloc | apply Kd.R_drewN | apply Kd.R_drew)); exact HO_0.out)) k_ hk)); (case aO => exact (by (with_reducible repeat (first | apply Kd.R_alloc | apply Kd.R_drewN | apply Kd.R_drew)); exact HO_7.out)); (case aS => exact (below_size (by repeat (first | (with_reducible first | exact HB.out | apply below_alloc | apply pw_below_drewN | apply below_drew1) | exact HB.out)))); (case aL => have := LMc9.out; omega); intro v117 w11 ho hb hg hat; rw [← Ny116.out] at ho; have n0_ := Aside0.mk (Kd.R_after (ok := (fun _ => True)) (by (with_reducible repeat (first | apply Kd.R_alloc | apply Kd.R_drewN | apply Kd.R_drew)); exact Kd.R_mono HO_0.out (fun _ hk => ⟨trivial, hk⟩)) hg hat); have n1_ := Aside0.mk (hb); have n2_ := Aside0.mk (ho); clear HO_0; clear HB; clear HO_7; have HO_0 := n0_; have HB := n1_; have HO118 := n2_; clear n0_ n1_ n2_; clear ho hb hg hat))
              go_roundg k1
              case measure => have := HK1.out; omega
              case rel => exact ⟨(y116), (true), (wrap64 (x9_1 + 1)), (by first | rfl | (simp; done) | (simp [*]; done)), (by first | rfl | (simp; done) | (simp [*]; done)), H', ⟨by have := HK1.out; omega⟩, ⟨by (with_reducible repeat (first | apply Kd.R_alloc | apply Kd.R_drewN | apply Kd.R_drew)); exact Kd.R_mono HO_0.out (fun _ hk => hk.2)⟩, ⟨by (with_reducible repeat (first | apply Kd.R_alloc | apply Kd.R_drewN | apply Kd.R_drew)); exact HO118.out⟩, ⟨by repeat (first | (with_reducible first | exact HB.out | apply below_alloc | apply pw_below_drewN | apply below_drew1) | exact HB.out)⟩⟩
            · rw [if_neg c9] at H
              exact absurd H (by simp)
          · rw [if_neg c8] at H
            exact absurd H (by simp)
        · replace c7 := Bool.eq_false_iff.mpr c7
          subst c7
          have H1 : (if 0 ≤ x9_1 then (if ((rd_T70 t112 x9_1).f0) > a1 then (if x7_1.length < 8796093022208 then ((some (x7_1 ++ [(⟨a1, a2⟩ : S70)] : List (S70))).bind fun y120 => (if y120.length < 8796093022208 then (echelonref10_Set.l0 k1 t112 a1 a2 (y120 ++ [(⟨(rd_T70 t112 x9_1).f0, (rd_T70 t112 x9_1).f1⟩ : S70)]) true (wrap64 (x9_1 + 1))) else (none))) else (none)) else (if ((rd_T70 t112 x9_1).f0) = a1 then (if ((rd_T70 t112 x9_1).f1) > a2 then (if x7_1.length < 8796093022208 then ((some (x7_1 ++ [(⟨a1, a2⟩ : S70)] : List (S70))).bind fun y129 => (if y129.length < 8796093022208 then (echelonref10_Set.l0 k1 t112 a1 a2 (y129 ++ [(⟨(rd_T70 t112 x9_1).f0, (rd_T70 t112 x9_1).f1⟩ : S70)]) true (wrap64 (x9_1 + 1))) else (none))) else (none)) else (if x7_1.length < 8796093022208 then (echelonref10_Set.l0 k1 t112 a1 a2 (x7_1 ++ [(⟨(rd_T70 t112 x9_1).f0, (rd_T70 t112 x9_1).f1⟩ : S70)]) false (wrap64 (x9_1 + 1))) else (none))) else (if x7_1.length < 8796093022208 then (echelonref10_Set.l0 k1 t112 a1 a2 (x7_1 ++ [(⟨(rd_T70 t112 x9_1).f0, (rd_T70 t112 x9_1).f1⟩ : S70)]) false (wrap64 (x9_1 + 1))) else (none)))) else (none)) = some r := by rw [if_neg (show ¬ (false = true) by decide)] at H; exact H
          clear H
          have H := H1
          clear H1
          by_cases c12 : 0 ≤ x9_1
          · rw [if_pos c12] at H
            have c12b0 : decide (0 ≤ x9_1) = true := decide_eq_true c12
            clear c12
            by_cases c13 : ((rd_T70 t112 x9_1).f0) > a1
            · rw [if_pos c13] at H
              have c13b0 : decide (a1 < ((rd_T70 t112 x9_1).f0)) = true := decide_eq_true c13
              clear c13
              by_cases c14 : x7_1.length < 8796093022208
              · rw [if_pos c14] at H
                have LMc14 := Aside0.mk c14
                clear c14
                obtain ⟨y120, hy120⟩ : ∃ y_ : List (S70), y_ = (x7_1 ++ [(⟨a1, a2⟩ : S70)]) := ⟨_, rfl⟩
                replace H : (if y120.length < 8796093022208 then (echelonref10_Set.l0 k1 t112 a1 a2 (y120 ++ [(⟨(rd_T70 t112 x9_1).f0, (rd_T70 t112 x9_1).f1⟩ : S70)]) true (wrap64 (x9_1 + 1))) else (none)) = some r := by first | (rw [hy120]; with_reducible exact H) | (have H2_ := (Option.bind_some _ _).symm.trans H; rw [hy120]; with_reducible exact H2_) | (have H2_ := (Option.bind_some _ _).symm.trans H; with_reducible exact H2_) | with_reducible exact H | (rw [hy120]; exact H) | exact H
                have Ny120 := Aside0.mk hy120
                clear hy120
                by_cases c15 : y120.length < 8796093022208
                · rw [if_pos c15] at H
                  have LMc15 := Aside0.mk c15
                  clear c15
                  obtain ⟨y124, hy124⟩ : ∃ y_ : List (S70), y_ = (y120 ++ [(⟨(rd_T70 t112 x9_1).f0, (rd_T70 t112 x9_1).f1⟩ : S70)]) := ⟨_, rfl⟩
                  replace H : (echelonref10_Set.l0 k1 t112 a1 a2 y124 true (wrap64 (x9_1 + 1))) = some r := by first | (rw [hy124]; with_reducible exact H) | (have H2_ := (Option.bind_some _ _).symm.trans H; rw [hy124]; with_reducible exact H2_) | (have H2_ := (Option.bind_some _ _).symm.trans H; with_reducible exact H2_) | with_reducible exact H | (rw [hy124]; exact H) | exact H
                  have Ny124 := Aside0.mk hy124
                  clear hy124
                  have H' := Aside0.mk H
                  clear H
                  obtain ⟨Ao16, co16, eo16⟩ := Kd.R_slice HO_0.out
                  subst eo16
                  have p119 : 0 ≤ (x9_1 : Int) := of_decide_eq_true (by first | (with_reducible assumption) | assumption)
                  have q119 : x9_1 < (t112.length : Int) := of_decide_eq_true (by first | (with_reducible assumption) | assumption)
                  obtain ⟨ad119, e119, hx119_0, hx119_1⟩ := at_T70 (Kd.R_reads' HO_0.out).2.2 x9_1 p119 q119
                  cases e119
                  replace p119 := eq_true p119
                  replace q119 := eq_true q119
                  go_wp2_with (first | ((with_reducible refine gate_builtin (b := .append) (xs := #[.tmp 48, .tmp 52]) rfl ?_); at_builtin; refine Kd.R_append k70 (w0 := w) w.heap.size rfl (.tmp 48) (.tmp 52) 63 70 (.agg #[(.int .i64 0), (.int .i64 0)]) 16 rfl Try.underlying63 info70 rfl (by decide) (by omega) u7 x7_1 (⟨a1, a2⟩ : S70) [.int .i64 a1, .int .i64 a2] (fun k_ => some k_ ≠ (.slice (some ad119) t112.length co16 : Value).ownBlock) (fun _ => False) rfl rfl ?aP (fun _ hk => hk.elim) ?aF ?aO ?aB ?aS ?aL ?_; (case aP => exact k70_mkM _ _ _ (⟨a1, a2⟩ : S70)); (case aB => exact (by repeat (first | (with_reducible first | exact HB.out | apply below_alloc | apply pw_below_drewN | apply below_drew1) | exact HB.out))); (case aF => exact (fun k_ hk => Kd.fresh' (Kd.R_lt (by (with_reducible repeat (first | apply Kd.R_alloc | apply Kd.R_drewN | apply Kd.R_drew)); exact HO_0.out)) k_ hk)); (case aO => exact (by (with_reducible repeat (first | apply Kd.R_alloc | apply Kd.R_drewN | apply Kd.R_drew)); exact HO_7.out)); (case aS => exact (below_size (by repeat (first | (with_reducible first | exact HB.out | apply below_alloc | apply pw_below_drewN | apply below_drew1) | exact HB.out)))); (case aL => have := LMc14.out; omega); intro v121 w17 ho hb hg hat; rw [← Ny120.out] at ho; have n0_ := Aside0.mk (Kd.R_after (ok := (fun _ => True)) (by (with_reducible repeat (first | apply Kd.R_alloc | apply Kd.R_drewN | apply Kd.R_drew)); exact Kd.R_mono HO_0.out (fun _ hk => ⟨trivial, hk⟩)) hg hat); have n1_ := Aside0.mk (hb); have n2_ := Aside0.mk (ho); clear HO_0; clear HB; clear HO_7; have HO_0 := n0_; have HB := n1_; have HO122 := n2_; clear n0_ n1_ n2_; clear ho hb hg hat; have p123 : 0 ≤ (x9_1 : Int) := of_decide_eq_true (by first | (with_reducible assumption) | assumption); have q123 : x9_1 < (t112.length : Int) := of_decide_eq_true (by first | (with_reducible assumption) | assumption); obtain ⟨ad123, e123, hx123_0, hx123_1⟩ := at_T70 (Kd.R_reads' HO_0.out).2.2 x9_1 p123 q123; obtain rfl : ad119 = ad123 := (by injection e123); replace p123 := eq_true p123; replace q123 := eq_true q123) | ((with_reducible refine gate_builtin (b := .append) (xs := #[.tmp 54, .tmp 59]) rfl ?_); at_builtin; refine Kd.R_append k70 (w0 := w) w.heap.size rfl (.tmp 54) (.tmp 59) 63 70 (.agg #[(.int .i64 0), (.int .i64 0)]) 16 rfl Try.underlying63 info70 rfl (by decide) (by omega) v121 y120 (⟨(rd_T70 t112 x9_1).f0, (rd_T70 t112 x9_1).f1⟩ : S70) [.int .i64 ((rd_T70 t112 x9_1).f0), .int .i64 ((rd_T70 t112 x9_1).f1)] (fun k_ => some k_ ≠ (.slice (some ad119) t112.length co16 : Value).ownBlock) (fun _ => False) rfl rfl ?aP (fun _ hk => hk.elim) ?aF ?aO ?aB ?aS ?aL ?_; (case aP => exact k70_mkM _ _ _ (⟨(rd_T70 t112 x9_1).f0, (rd_T70 t112 x9_1).f1⟩ : S70)); (case aB => exact (by repeat (first | (with_reducible first | exact HB.out | apply below_alloc | apply pw_below_drewN | apply below_drew1) | exact HB.out))); (case aF => exact (fun k_ hk => Kd.fresh' (Kd.R_lt (by (with_reducible repeat (first | apply Kd.R_alloc | apply Kd.R_drewN | apply Kd.R_drew)); exact HO_0.out)) k_ hk)); (case aO => exact (by (with_reducible repeat (first | apply Kd.R_alloc | apply Kd.R_drewN | apply Kd.R_drew)); exact HO122.out)); (case aS => exact (below_size (by repeat (first | (with_reducible first | exact HB.out | apply below_alloc | apply pw_below_drewN | apply below_drew1) | exact HB.out)))); (case aL => have := LMc15.out; omega); intro v125 w18 ho hb hg hat; rw [← Ny124.out] at ho; have n0_ := Aside0.mk (Kd.R_after (ok := (fun _ => True)) (by (with_reducible repeat (first | apply Kd.R_alloc | apply Kd.R_drewN | apply Kd.R_drew)); exact HO_0.out) hg hat); have n1_ := Aside0.mk (hb); have n2_ := Aside0.mk (ho); clear HO_0; clear HB; clear HO122; have HO_0 := n0_; have HB := n1_; have HO126 := n2_; clear n0_ n1_ n2_; clear ho hb hg hat))
                  go_roundg k1
                  case measure => have := HK1.out; omega
                  case rel => exact ⟨(y124), (true), (wrap64 (x9_1 + 1)), (by first | rfl | (simp; done) | (simp [*]; done)), (by first | rfl | (simp; done) | (simp [*]; done)), H', ⟨by have := HK1.out; omega⟩, ⟨by (with_reducible repeat (first | apply Kd.R_alloc | apply Kd.R_drewN | apply Kd.R_drew)); exact Kd.R_mono HO_0.out (fun _ hk => hk.2)⟩, ⟨by (with_reducible repeat (first | apply Kd.R_alloc | apply Kd.R_drewN | apply Kd.R_drew)); exact HO126.out⟩, ⟨by repeat (first | (with_reducible first | exact HB.out | apply below_alloc | apply pw_below_drewN | apply below_drew1) | exact HB.out)⟩⟩
                · rw [if_neg c15] at H
                  exact absurd H (by simp)
              · rw [if_neg c14] at H
                exact absurd H (by simp)
            · rw [if_neg c13] at H
              have c13b0 : decide (a1 < ((rd_T70 t112 x9_1).f0)) = false := decide_eq_false c13
              clear c13
              by_cases c19 : ((rd_T70 t112 x9_1).f0) = a1
              · rw [if_pos c19] at H
                have c19b0 : (((rd_T70 t112 x9_1).f0) == a1) = true := beq_iff_eq.mpr c19
                have c19b1 : (((rd_T70 t112 x9_1).f0) != a1) = false := bne_eq_false_iff_eq.mpr c19
                clear c19
                by_cases c20 : ((rd_T70 t112 x9_1).f1) > a2
                · rw [if_pos c20] at H
                  have c20b0 : decide (a2 < ((rd_T70 t112 x9_1).f1)) = true := decide_eq_true c20
                  clear c20
                  by_cases c21 : x7_1.length < 8796093022208
                  · rw [if_pos c21] at H
                    have LMc21 := Aside0.mk c21
                    clear c21
                    obtain ⟨y129, hy129⟩ : ∃ y_ : List (S70), y_ = (x7_1 ++ [(⟨a1, a2⟩ : S70)]) := ⟨_, rfl⟩
                    replace H : (if y129.length < 8796093022208 then (echelonref10_Set.l0 k1 t112 a1 a2 (y129 ++ [(⟨(rd_T70 t112 x9_1).f0, (rd_T70 t112 x9_1).f1⟩ : S70)]) true (wrap64 (x9_1 + 1))) else (none)) = some r := by first | (rw [hy129]; with_reducible exact H) | (have H2_ := (Option.bind_some _ _).symm.trans H; rw [hy129]; with_reducible exact H2_) | (have H2_ := (Option.bind_some _ _).symm.trans H; with_reducible exact H2_) | with_reducible exact H | (rw [hy129]; exact H) | exact H
                    have Ny129 := Aside0.mk hy129
                    clear hy129
                    by_cases c22 : y129.length < 8796093022208
                    · rw [if_pos c22] at H
                      have LMc22 := Aside0.mk c22
                      clear c22
                      obtain ⟨y133, hy133⟩ : ∃ y_ : List (S70), y_ = (y129 ++ [(⟨(rd_T70 t112 x9_1).f0, (rd_T70 t112 x9_1).f1⟩ : S70)]) := ⟨_, rfl⟩
                      replace H : (echelonref10_Set.l0 k1 t112 a1 a2 y133 true (wrap64 (x9_1 + 1))) = some r := by first | (rw [hy133]; with_reducible exact H) | (have H2_ := (Option.bind_some _ _).symm.trans H; rw [hy133]; with_reducible exact H2_) | (have H2_ := (Option.bind_some _ _).symm.trans H; with_reducible exact H2_) | with_reducible exact H | (rw [hy133]; exact H) | exact H
                      have Ny133 := Aside0.mk hy133
                      clear hy133
                      have H' := Aside0.mk H
                      clear H
                      obtain ⟨Ao23, co23, eo23⟩ := Kd.R_slice HO_0.out
                      subst eo23
                      have p119 : 0 ≤ (x9_1 : Int) := of_decide_eq_true (by first | (with_reducible assumption) | assumption)
                      have q119 : x9_1 < (t112.length : Int) := of_decide_eq_true (by first | (with_reducible assumption) | assumption)
                      obtain ⟨ad119, e119, hx119_0, hx119_1⟩ := at_T70 (Kd.R_reads' HO_0.out).2.2 x9_1 p119 q119
                      cases e119
                      replace p119 := eq_true p119
                      replace q119 := eq_true q119
                      have p127 : 0 ≤ (x9_1 : Int) := of_decide_eq_true (by first | (with_reducible assumption) | assumption)
                      have q127 : x9_1 < (t112.length : Int) := of_decide_eq_true (by first | (with_reducible assumption) | assumption)
                      obtain ⟨ad127, e127, hx127_0, hx127_1⟩ := at_T70 (Kd.R_reads' HO_0.out).2.2 x9_1 p127 q127
                      obtain rfl : ad119 = ad127 := (by injection e127)
                      replace p127 := eq_true p127
                      replace q127 := eq_true q127
                      have p128 : 0 ≤ (x9_1 : Int) := of_decide_eq_true (by first | (with_reducible assumption) | assumption)
                      have q128 : x9_1 < (t112.length : Int) := of_decide_eq_true (by first | (with_reducible assumption) | assumption)
                      obtain ⟨ad128, e128, hx128_0, hx128_1⟩ := at_T70 (Kd.R_reads' HO_0.out).2.2 x9_1 p128 q128
                      obtain rfl : ad119 = ad128 := (by injection e128)
                      replace p128 := eq_true p128
                      replace q128 := eq_true q128
                      go_wp2_with (first | ((with_reducible refine gate_builtin (b := .append) (xs := #[.tmp 48, .tmp 52]) rfl ?_); at_builtin; refine Kd.R_append k70 (w0 := w) w.heap.size rfl (.tmp 48) (.tmp 52) 63 70 (.agg #[(.int .i64 0), (.int .i64 0)]) 16 rfl Try.underlying63 info70 rfl (by decide) (by omega) u7 x7_1 (⟨a1, a2⟩ : S70) [.int .i64 a1, .int .i64 a2] (fun k_ => some k_ ≠ (.slice (some ad119) t112.length co23 : Value).ownBlock) (fun _ => False) rfl rfl ?aP (fun _ hk => hk.elim) ?aF ?aO ?aB ?aS ?aL ?_; (case aP => exact k70_mkM _ _ _ (⟨a1, a2⟩ : S70)); (case aB => exact (by repeat (first | (with_reducible first | exact HB.out | apply below_alloc | apply pw_below_drewN | apply below_drew1) | exact HB.out))); (case aF => exact (fun k_ hk => Kd.fresh' (Kd.R_lt (by (with_reducible repeat (first | apply Kd.R_alloc | apply Kd.R_drewN | apply Kd.R_drew)); exact HO_0.out)) k_ hk)); (case aO => exact (by (with_reducible repeat (first | apply Kd.R_alloc | apply Kd.R_drewN | apply Kd.R_drew)); exact HO_7.out)); (case aS => exact (below_size (by repeat (first | (with_reducible first | exact HB.out | apply below_alloc | apply pw_below_drewN | apply below_drew1) | exact HB.out)))); (case aL => have := LMc21.out; omega); intro v130 w24 ho hb hg hat; rw [← Ny129.out] at ho; have n0_ := Aside0.mk (Kd.R_after (ok := (fun _ => True)) (by (with_reducible repeat (first | apply Kd.R_alloc | apply Kd.R_drewN | apply Kd.R_drew)); exact Kd.R_mono HO_0.out (fun _ hk => ⟨trivial, hk⟩)) hg hat); have n1_ := Aside0.mk (hb); have n2_ := Aside0.mk (ho); clear HO_0; clear HB; clear HO_7; have HO_0 := n0_; have HB := n1_; have HO131 := n2_; clear n0_ n1_ n2_; clear ho hb hg hat; have p132 : 0 ≤ (x9_1 : Int) := of_decide_eq_true (by first | (with_reducible assumption) | assumption); have q132 : x9_1 < (t112.length : Int) := of_decide_eq_true (by first | (with_reducible assumption) | assumption); obtain ⟨ad132, e132, hx132_0, hx132_1⟩ := at_T70 (Kd.R_reads' HO_0.out).2.2 x9_1 p132 q132; obtain rfl : ad119 = ad132 := (by injection e132); replace p132 := eq_true p132; replace q132 := eq_true q132) | ((with_reducible refine gate_builtin (b := .append) (xs := #[.tmp 54, .tmp 59]) rfl ?_); at_builtin; refine Kd.R_append k70 (w0 := w) w.heap.size rfl (.tmp 54) (.tmp 59) 63 70 (.agg #[(.int .i64 0), (.int .i64 0)]) 16 rfl Try.underlying63 info70 rfl (by decide) (by omega) v130 y129 (⟨(rd_T70 t112 x9_1).f0, (rd_T70 t112 x9_1).f1⟩ : S70) [.int .i64 ((rd_T70 t112 x9_1).f0), .int .i64 ((rd_T70 t112 x9_1).f1)] (fun k_ => some k_ ≠ (.slice (some ad119) t112.length co23 : Value).ownBlock) (fun _ => False) rfl rfl ?aP (fun _ hk => hk.elim) ?aF ?aO ?aB ?aS ?aL ?_; (case aP => exact k70_mkM _ _ _ (⟨(rd_T70 t112 x9_1).f0, (rd_T70 t112 x9_1).f1⟩ : S70)); (case aB => exact (by repeat (first | (with_reducible first | exact HB.out | apply below_alloc | apply pw_below_drewN | apply below_drew1) | exact HB.out))); (case aF => exact (fun k_ hk => Kd.fresh' (Kd.R_lt (by (with_reducible repeat (first | apply Kd.R_alloc | apply Kd.R_drewN | apply Kd.R_drew)); exact HO_0.out)) k_ hk)); (case aO => exact (by (with_reducible repeat (first | apply Kd.R_alloc | apply Kd.R_drewN | apply Kd.R_drew)); exact HO131.out)); (case aS => exact (below_size (by repeat (first | (with_reducible first | exact HB.out | apply below_alloc | apply pw_below_drewN | apply below_drew1) | exact HB.out)))); (case aL => have := LMc22.out; omega); intro v134 w25 ho hb hg hat; rw [← Ny133.out] at ho; have n0_ := Aside0.mk (Kd.R_after (ok := (fun _ => True)) (by (with_reducible repeat (first | apply Kd.R_alloc | apply Kd.R_drewN | apply Kd.R_drew)); exact HO_0.out) hg hat); have n1_ := Aside0.mk (hb); have n2_ := Aside0.mk (ho); clear HO_0; clear HB; clear HO131; have HO_0 := n0_; have HB := n1_; have HO135 := n2_; clear n0_ n1_ n2_; clear ho hb hg hat))
                      go_roundg k1
                      case measure => have := HK1.out; omega
                      case rel => exact ⟨(y133), (true), (wrap64 (x9_1 + 1)), (by first | rfl | (simp; done) | (simp [*]; done)), (by first | rfl | (simp; done) | (simp [*]; done)), H', ⟨by have := HK1.out; omega⟩, ⟨by (with_reducible repeat (first | apply Kd.R_alloc | apply Kd.R_drewN | apply Kd.R_drew)); exact Kd.R_mono HO_0.out (fun _ hk => hk.2)⟩, ⟨by (with_reducible repeat (first | apply Kd.R_alloc | apply Kd.R_drewN | apply Kd.R_drew)); exact HO135.out⟩, ⟨by repeat (first | (with_reducible first | exact HB.out | apply below_alloc | apply pw_below_drewN | apply below_drew1) | exact HB.out)⟩⟩
                    · rw [if_neg c22] at H
                      exact absurd H (by simp)
                  · rw [if_neg c21] at H
                    exact absurd H (by simp)
                · rw [if_neg c20] at H
                  have c20b0 : decide (a2 < ((rd_T70 t112 x9_1).f1)) = false := decide_eq_false c20
                  clear c20
                  by_cases c26 : x7_1.length < 8796093022208
                  · rw [if_pos c26] at H
                    have LMc26 := Aside0.mk c26
                    clear c26
                    obtain ⟨y137, hy137⟩ : ∃ y_ : List (S70), y_ = (x7_1 ++ [(⟨(rd_T70 t112 x9_1).f0, (rd_T70 t112 x9_1).f1⟩ : S70)]) := ⟨_, rfl⟩
                    replace H : (echelonref10_Set.l0 k1 t112 a1 a2 y137 false (wrap64 (x9_1 + 1))) = some r := by first | (rw [hy137]; with_reducible exact H) | (have H2_ := (Option.bind_some _ _).symm.trans H; rw [hy137]; with_reducible exact H2_) | (have H2_ := (Option.bind_some _ _).symm.trans H; with_reducible exact H2_) | with_reducible exact H | (rw [hy137]; exact H) | exact H
                    have Ny137 := Aside0.mk hy137
                    clear hy137
                    have H' := Aside0.mk H
                    clear H
                    obtain ⟨Ao27, co27, eo27⟩ := Kd.R_slice HO_0.out
                    subst eo27
                    have p119 : 0 ≤ (x9_1 : Int) := of_decide_eq_true (by first | (with_reducible assumption) | assumption)
                    have q119 : x9_1 < (t112.length : Int) := of_decide_eq_true (by first | (with_reducible assumption) | assumption)
                    obtain ⟨ad119, e119, hx119_0, hx119_1⟩ := at_T70 (Kd.R_reads' HO_0.out).2.2 x9_1 p119 q119
                    cases e119
                    replace p119 := eq_true p119
                    replace q119 := eq_true q119
                    have p127 : 0 ≤ (x9_1 : Int) := of_decide_eq_true (by first | (with_reducible assumption) | assumption)
                    have q127 : x9_1 < (t112.length : Int) := of_decide_eq_true (by first | (with_reducible assumption) | assumption)
                    obtain ⟨ad127, e127, hx127_0, hx127_1⟩ := at_T70 (Kd.R_reads' HO_0.out).2.2 x9_1 p127 q127
                    obtain rfl : ad119 = ad127 := (by injection e127)
                    replace p127 := eq_true p127
                    replace q127 := eq_true q127
                    have p128 : 0 ≤ (x9_1 : Int) := of_decide_eq_true (by first | (with_reducible assumption) | assumption)
                    have q128 : x9_1 < (t112.length : Int) := of_decide_eq_true (by first | (with_reducible assumption) | assumption)
                    obtain ⟨ad128, e128, hx128_0, hx128_1⟩ := at_T70 (Kd.R_reads' HO_0.out).2.2 x9_1 p128 q128
                    obtain rfl : ad119 = ad128 := (by injection e128)
                    replace p128 := eq_true p128
                    replace q128 := eq_true q128
                    have p136 : 0 ≤ (x9_1 : Int) := of_decide_eq_true (by first | (with_reducible assumption) | assumption)
                    have q136 : x9_1 < (t112.length : Int) := of_decide_eq_true (by first | (with_reducible assumption) | assumption)
                    obtain ⟨ad136, e136, hx136_0, hx136_1⟩ := at_T70 (Kd.R_reads' HO_0.out).2.2 x9_1 p136 q136
                    obtain rfl : ad119 = ad136 := (by injection e136)
                    replace p136 := eq_true p136
                    replace q136 := eq_true q136
                    go_wp2_with (first | ((with_reducible refine gate_builtin (b := .append) (xs := #[.tmp 54, .tmp 59]) rfl ?_); at_builtin; refine Kd.R_append k70 (w0 := w) w.heap.size rfl (.tmp 54) (.tmp 59) 63 70 (.agg #[(.int .i64 0), (.int .i64 0)]) 16 rfl Try.underlying63 info70 rfl (by decide) (by omega) u7 x7_1 (⟨(rd_T70 t112 x9_1).f0, (rd_T70 t112 x9_1).f1⟩ : S70) [.int .i64 ((rd_T70 t112 x9_1).f0), .int .i64 ((rd_T70 t112 x9_1).f1)] (fun k_ => some k_ ≠ (.slice (some ad119) t112.length co27 : Value).ownBlock) (fun _ => False) rfl rfl ?aP (fun _ hk => hk.elim) ?aF ?aO ?aB ?aS ?aL ?_; (case aP => exact k70_mkM _ _ _ (⟨(rd_T70 t112 x9_1).f0, (rd_T70 t112 x9_1).f1⟩ : S70)); (case aB => exact (by repeat (first | (with_reducible first | exact HB.out | apply below_alloc | apply pw_below_drewN | apply below_drew1) | exact HB.out))); (case aF => exact (fun k_ hk => Kd.fresh' (Kd.R_lt (by (with_reducible repeat (first | apply Kd.R_alloc | apply Kd.R_drewN | apply Kd.R_drew)); exact HO_0.out)) k_ hk)); (case aO => exact (by (with_reducible repeat (first | apply Kd.R_alloc | apply Kd.R_drewN | apply Kd.R_drew)); exact HO_7.out)); (case aS => exact (below_size (by repeat (first | (with_reducible first | exact HB.out | apply below_alloc | apply pw_below_drewN | apply below_drew1) | exact HB.out)))); (case aL => have := LMc26.out; omega); intro v138 w28 ho hb hg hat; rw [← Ny137.out] at ho; have n0_ := Aside0.mk (Kd.R_after (ok := (fun _ => True)) (by (with_reducible repeat (first | apply Kd.R_alloc | apply Kd.R_drewN | apply Kd.R_drew)); exact Kd.R_mono HO_0.out (fun _ hk => ⟨trivial, hk⟩)) hg hat); have n1_ := Aside0.mk (hb); have n2_ := Aside0.mk (ho); clear HO_0; clear HB; clear HO_7; have HO_0 := n0_; have HB := n1_; have HO139 := n2_; clear n0_ n1_ n2_; clear ho hb hg hat))
                    go_roundg k1
                    case measure => have := HK1.out; omega
                    case rel => exact ⟨(y137), (false), (wrap64 (x9_1 + 1)), (by first | rfl | (simp; done) | (simp [*]; done)), (by first | rfl | (simp; done) | (simp [*]; done)), H', ⟨by have := HK1.out; omega⟩, ⟨by (with_reducible repeat (first | apply Kd.R_alloc | apply Kd.R_drewN | apply Kd.R_drew)); exact Kd.R_mono HO_0.out (fun _ hk => hk.2)⟩, ⟨by (with_reducible repeat (first | apply Kd.R_alloc | apply Kd.R_drewN | apply Kd.R_drew)); exact HO139.out⟩, ⟨by repeat (first | (with_reducible first | exact HB.out | apply below_alloc | apply pw_below_drewN | apply below_drew1) | exact HB.out)⟩⟩
                  · rw [if_neg c26] at H
                    exact absurd H (by simp)
              · rw [if_neg c19] at H
                have c19b0 : (((rd_T70 t112 x9_1).f0) == a1) = false := beq_eq_false_iff_ne.mpr c19
                have c19b1 : (((rd_T70 t112 x9_1).f0) != a1) = true := bne_iff_ne.mpr c19
                by_cases c29 : x7_1.length < 8796093022208
                · rw [if_pos c29] at H
                  have LMc29 := Aside0.mk c29
                  clear c29
                  obtain ⟨y141, hy141⟩ : ∃ y_ : List (S70), y_ = (x7_1 ++ [(⟨(rd_T70 t112 x9_1).f0, (rd_T70 t112 x9_1).f1⟩ : S70)]) := ⟨_, rfl⟩
                  replace H : (echelonref10_Set.l0 k1 t112 a1 a2 y141 false (wrap64 (x9_1 + 1))) = some r := by first | (rw [hy141]; with_reducible exact H) | (have H2_ := (Option.bind_some _ _).symm.trans H; rw [hy141]; with_reducible exact H2_) | (have H2_ := (Option.bind_some _ _).symm.trans H; with_reducible exact H2_) | with_reducible exact H | (rw [hy141]; exact H) | exact H
                  have Ny141 := Aside0.mk hy141
                  clear hy141
                  have H' := Aside0.mk H
                  clear H
                  obtain ⟨Ao30, co30, eo30⟩ := Kd.R_slice HO_0.out
                  subst eo30
                  have p119 : 0 ≤ (x9_1 : Int) := of_decide_eq_true (by first | (with_reducible assumption) | assumption)
                  have q119 : x9_1 < (t112.length : Int) := of_decide_eq_true (by first | (with_reducible assumption) | assumption)
                  obtain ⟨ad119, e119, hx119_0, hx119_1⟩ := at_T70 (Kd.R_reads' HO_0.out).2.2 x9_1 p119 q119
                  cases e119
                  replace p119 := eq_true p119
                  replace q119 := eq_true q119
                  have p127 : 0 ≤ (x9_1 : Int) := of_decide_eq_true (by first | (with_reducible assumption) | assumption)
                  have q127 : x9_1 < (t112.length : Int) := of_decide_eq_true (by first | (with_reducible assumption) | assumption)
                  obtain ⟨ad127, e127, hx127_0, hx127_1⟩ := at_T70 (Kd.R_reads' HO_0.out).2.2 x9_1 p127 q127
                  obtain rfl : ad119 = ad127 := (by injection e127)
                  replace p127 := eq_true p127
                  replace q127 := eq_true q127
                  have p140 : 0 ≤ (x9_1 : Int) := of_decide_eq_true (by first | (with_reducible assumption) | assumption)
                  have q140 : x9_1 < (t112.length : Int) := of_decide_eq_true (by first | (with_reducible assumption) | assumption)
                  obtain ⟨ad140, e140, hx140_0, hx140_1⟩ := at_T70 (Kd.R_reads' HO_0.out).2.2 x9_1 p140 q140
                  obtain rfl : ad119 = ad140 := (by injection e140)
                  replace p140 := eq_true p140
                  replace q140 := eq_true q140
                  go_wp2_with (first | ((with_reducible refine gate_builtin (b := .append) (xs := #[.tmp 54, .tmp 59]) rfl ?_); at_builtin; refine Kd.R_append k70 (w0 := w) w.heap.size rfl (.tmp 54) (.tmp 59) 63 70 (.agg #[(.int .i64 0), (.int .i64 0)]) 16 rfl Try.underlying63 info70 rfl (by decide) (by omega) u7 x7_1 (⟨(rd_T70 t112 x9_1).f0, (rd_T70 t112 x9_1).f1⟩ : S70) [.int .i64 ((rd_T70 t112 x9_1).f0), .int .i64 ((rd_T70 t112 x9_1).f1)] (fun k_ => some k_ ≠ (.slice (some ad119) t112.length co30 : Value).ownBlock) (fun _ => False) rfl rfl ?aP (fun _ hk => hk.elim) ?aF ?aO ?aB ?aS ?aL ?_; (case aP => exact k70_mkM _ _ _ (⟨(rd_T70 t112 x9_1).f0, (rd_T70 t112 x9_1).f1⟩ : S70)); (case aB => exact (by repeat (first | (with_reducible first | exact HB.out | apply below_alloc | apply pw_below_drewN | apply below_drew1) | exact HB.out))); (case aF => exact (fun k_ hk => Kd.fresh' (Kd.R_lt (by (with_reducible repeat (first | apply Kd.R_alloc | apply Kd.R_drewN | apply Kd.R_drew)); exact HO_0.out)) k_ hk)); (case aO => exact (by (with_reducible repeat (first | apply Kd.R_alloc | apply Kd.R_drewN | apply Kd.R_drew)); exact HO_7.out)); (case aS => exact (below_size (by repeat (first | (with_reducible first | exact HB.out | apply below_alloc | apply pw_below_drewN | apply below_drew1) | exact HB.out)))); (case aL => have := LMc29.out; omega); intro v142 w31 ho hb hg hat; rw [← Ny141.out] at ho; have n0_ := Aside0.mk (Kd.R_after (ok := (fun _ => True)) (by (with_reducible repeat (first | apply Kd.R_alloc | apply Kd.R_drewN | apply Kd.R_drew)); exact Kd.R_mono HO_0.out (fun _ hk => ⟨trivial, hk⟩)) hg hat); have n1_ := Aside0.mk (hb); have n2_ := Aside0.mk (ho); clear HO_0; clear HB; clear HO_7; have HO_0 := n0_; have HB := n1_; have HO143 := n2_; clear n0_ n1_ n2_; clear ho hb hg hat))
                  go_roundg k1
                  case measure => have := HK1.out; omega
                  case rel => exact ⟨(y141), (false), (wrap64 (x9_1 + 1)), (by first | rfl | (simp; done) | (simp [*]; done)), (by first | rfl | (simp; done) | (simp [*]; done)), H', ⟨by have := HK1.out; omega⟩, ⟨by (with_reducible repeat (first | apply Kd.R_alloc | apply Kd.R_drewN | apply Kd.R_drew)); exact Kd.R_mono HO_0.out (fun _ hk => hk.2)⟩, ⟨by (with_reducible repeat (first | apply Kd.R_alloc | apply Kd.R_drewN | apply Kd.R_drew)); exact HO143.out⟩, ⟨by repeat (first | (with_reducible first | exact HB.out | apply below_alloc | apply pw_below_drewN | apply below_drew1) | exact HB.out)⟩⟩
                · rw [if_neg c29] at H
                  exact absurd H (by simp)
          · rw [if_neg c12] at H
            exact absurd H (by simp)
      · rw [if_neg c6] at H
        have c6b0 : decide (x9_1 < (t112.length : Int)) = false := decide_eq_false c6
        clear c6
        by_cases c32 : x8_1 = true
        · subst c32
          have H1 : (some x7_1) = some r := by rw [if_pos rfl] at H; exact H
          clear H
          have H := H1
          clear H1
          obtain rfl := Option.some.inj H
          obtain ⟨Ao33, co33, eo33⟩ := Kd.R_slice HO_0.out
          subst eo33
          go_wp2
          go_ret
          exact ⟨_, by first | rfl | (simp [errW_none, errW_some] <;> rfl) | (simp [*, errW_none, errW_some] <;> rfl), by (with_reducible repeat (first | apply Kd.R_alloc | apply Kd.R_drewN | apply Kd.R_drew)); exact Kd.R_mono HO_7.out (fun _ hk => trivial), by repeat (first | (with_reducible first | exact HB.out | apply below_alloc | apply pw_below_drewN | apply below_drew1) | exact HB.out)⟩
        · replace c32 := Bool.eq_false_iff.mpr c32
          subst c32
          have H1 : (if x7_1.length < 8796093022208 then (some (x7_1 ++ [(⟨a1, a2⟩ : S70)])) else (none)) = some r := by rw [if_neg (show ¬ (false = true) by decide)] at H; exact H
          clear H
          have H := H1
          clear H1
          by_cases c34 : x7_1.length < 8796093022208
          · rw [if_pos c34] at H
            have LMc34 := Aside0.mk c34
            clear c34
            obtain ⟨y144, hy144⟩ : ∃ y_ : List (S70), y_ = (x7_1 ++ [(⟨a1, a2⟩ : S70)]) := ⟨_, rfl⟩
            replace H : (some y144) = some r := by first | (rw [hy144]; with_reducible exact H) | (have H2_ := (Option.bind_some _ _).symm.trans H; rw [hy144]; with_reducible exact H2_) | (have H2_ := (Option.bind_some _ _).symm.trans H; with_reducible exact H2_) | with_reducible exact H | (rw [hy144]; exact H) | exact H
            have Ny144 := Aside0.mk hy144
            clear hy144
            obtain rfl := Option.some.inj H
            obtain ⟨Ao35, co35, eo35⟩ := Kd.R_slice HO_0.out
            subst eo35
            go_wp2_with (first | ((with_reducible refine gate_builtin (b := .append) (xs := #[.tmp 63, .tmp 67]) rfl ?_); at_builtin; refine Kd.R_append k70 (w0 := w) w.heap.size rfl (.tmp 63) (.tmp 67) 63 70 (.agg #[(.int .i64 0), (.int .i64 0)]) 16 rfl Try.underlying63 info70 rfl (by decide) (by omega) u7 x7_1 (⟨a1, a2⟩ : S70) [.int .i64 a1, .int .i64 a2] (fun k_ => some k_ ≠ (.slice Ao35 t112.length co35 : Value).ownBlock) (fun _ => False) rfl rfl ?aP (fun _ hk => hk.elim) ?aF ?aO ?aB ?aS ?aL ?_; (case aP => exact k70_mkM _ _ _ (⟨a1, a2⟩ : S70)); (case aB => exact (by repeat (first | (with_reducible first | exact HB.out | apply below_alloc | apply pw_below_drewN | apply below_drew1) | exact HB.out))); (case aF => exact (fun k_ hk => Kd.fresh' (Kd.R_lt (by (with_reducible repeat (first | apply Kd.R_alloc | apply Kd.R_drewN | apply Kd.R_drew)); exact HO_0.out)) k_ hk)); (case aO => exact (by (with_reducible repeat (first | apply Kd.R_alloc | apply Kd.R_drewN | apply Kd.R_drew)); exact HO_7.out)); (case aS => exact (below_size (by repeat (first | (with_reducible first | exact HB.out | apply below_alloc | apply pw_below_drewN | apply below_drew1) | exact HB.out)))); (case aL => have := LMc34.out; omega); intro v145 w36 ho hb hg hat; rw [← Ny144.out] at ho; have n0_ := Aside0.mk (Kd.R_after (ok := (fun _ => True)) (by (with_reducible repeat (first | apply Kd.R_alloc | apply Kd.R_drewN | apply Kd.R_drew)); exact Kd.R_mono HO_0.out (fun _ hk => ⟨trivial, hk⟩)) hg hat); have n1_ := Aside0.mk (hb); have n2_ := Aside0.mk (ho); clear HO_0; clear HB; clear HO_7; have HO_0 := n0_; have HB := n1_; have HO146 := n2_; clear n0_ n1_ n2_; clear ho hb hg hat))
            go_ret
            exact ⟨_, by first | rfl | (simp [errW_none, errW_some] <;> rfl) | (simp [*, errW_none, errW_some] <;> rfl), by (with_reducible repeat (first | apply Kd.R_alloc | apply Kd.R_drewN | apply Kd.R_drew)); exact Kd.R_mono HO146.out (fun _ hk => trivial), by repeat (first | (with_reducible first | exact HB.out | apply below_alloc | apply pw_below_drewN | apply below_drew1) | exact HB.out)⟩
          · rw [if_neg c34] at H
            exact absurd H (by simp)

-- NOT PRINTED: function 78 (heap_Remove)

-- NOT PRINTED: function 38 (timer_Alarms_Clear)

/-! ### timer_Alarms_Next: function 40 -/
def timer_Alarms_Next.f (s0_0 : List (S126)) : Option (Int × Bool) := if (s0_0.length : Int) = 0 then (some (0, false)) else (if 0 < (s0_0.length : Int) then (some ((rd_T126 s0_0 0).f0, true)) else (none))
set_option maxHeartbeats 8000000 in
set_option maxRecDepth 100000 in
theorem timer_Alarms_Next.calls (g : Nat) (s0_0 : List (S126)) (r1 : Int) (r2 : Bool) (w0 w : World) (hI : IsS50 w0 w g s0_0) (hB : Below w0.heap.size w0 w) (h : timer_Alarms_Next.f s0_0 = some (r1, r2)) :
    Calls Try.prog 40 #[.pointer (some ⟨g, 0, none⟩)] w fun e w' => e = .returned (.tuple #[.int .i64 r1, .bool r2]) ∧ IsS50 w0 w' g s0_0 ∧ Below w0.heap.size w0 w' ∧ KeepBut w w' g none := by
  have HI0 := Aside0.mk hI
  have HK := Aside0.mk (KeepBut.refl w g none)
  have HL := Aside0.mk hB.size
  clear hI
  have HW0 := Aside0.mk hB.size
  have HB := Aside0.mk hB
  clear hB
  have H : (if (s0_0.length : Int) = 0 then (some (0, false)) else (if 0 < (s0_0.length : Int) then (some ((rd_T126 s0_0 0).f0, true)) else (none))) = some (r1, r2) := h
  clear h
  by_cases c2 : (s0_0.length : Int) = 0
  · rw [if_pos c2] at H
    have c2b0 : ((s0_0.length : Int) == 0) = true := beq_iff_eq.mpr c2
    have c2b1 : ((s0_0.length : Int) != 0) = false := bne_eq_false_iff_eq.mpr c2
    clear c2
    simp only [Option.some.injEq, Prod.mk.injEq] at H
    obtain ⟨rfl, rfl⟩ := H
    obtain ⟨ASz3_0, cSz3_0, HGz3, hgz3, HSz3_0⟩ := HI0.out
    have hcz3_0 := cellS50_0 HGz3
    clear HGz3 hgz3
    go_enter Try.func40, Try.ntmps40
    go_wp2
    go_ret2
    exact ⟨by first | rfl | (simp [errW_none, errW_some] <;> rfl) | (simp [*, errW_none, errW_some] <;> rfl), by repeat (first | (with_reducible first | exact HI0.out | apply IsS50.alloc | apply IsS50.drewN | apply IsS50.drew) | exact HI0.out), by repeat (first | (with_reducible first | exact HB.out | apply below_alloc | apply pw_below_drewN | apply below_drew1 | refine below_set ?_ (IsS50.ge HI0.out)) | exact HB.out), by repeat (first | (with_reducible first | exact HK.out | apply KeepBut.set_ | apply keep_drewN | apply keep_drew | apply keep_alloc) | exact HK.out)⟩
  · rw [if_neg c2] at H
    have c2b0 : ((s0_0.length : Int) == 0) = false := beq_eq_false_iff_ne.mpr c2
    have c2b1 : ((s0_0.length : Int) != 0) = true := bne_iff_ne.mpr c2
    have c2b2 : ¬ (s0_0 = []) := fun h_ => c2 (by rw [h_]; rfl)
    by_cases c4 : 0 < (s0_0.length : Int)
    · rw [if_pos c4] at H
      have c4b0 : decide (0 < (s0_0.length : Int)) = true := decide_eq_true c4
      have c4b1 : decide (0 < s0_0.length) = true := decide_eq_true (by omega)
      clear c4
      simp only [Option.some.injEq, Prod.mk.injEq] at H
      obtain ⟨rfl, rfl⟩ := H
      obtain ⟨ASz5_0, cSz5_0, HGz5, hgz5, HSz5_0⟩ := HI0.out
      have hcz5_0 := cellS50_0 HGz5
      clear HGz5 hgz5
      have p148 : 0 ≤ (0 : Int) := (by omega)
      have q148 : 0 < (s0_0.length : Int) := of_decide_eq_true (by first | (with_reducible assumption) | assumption)
      obtain ⟨ad148, e148, hx148_0, hx148_1⟩ := at_T126 HSz5_0 0 p148 q148
      cases e148
      have qi148 : (0 < s0_0.length) = True := eq_true (by omega)
      (try rw [show ((0 : Int)).toNat = 0 from rfl] at hx148_0)
      (try rw [show 0 * 2 = 0 from rfl] at hx148_0)
      (try rw [Addr.add_zero'] at hx148_0)
      (try rw [show ((0 : Int)).toNat = 0 from rfl] at hx148_1)
      (try rw [show 0 * 2 = 0 from rfl] at hx148_1)
      (try rw [Addr.add_zero'] at hx148_1)
      replace hx148_0 := pw_cell_below HB.out hx148_0
      replace hx148_1 := pw_cell_below HB.out hx148_1
      replace p148 := eq_true p148
      replace q148 := eq_true q148
      go_enter Try.func40, Try.ntmps40
      go_wp2
      go_ret2
      exact ⟨by first | rfl | (simp [errW_none, errW_some] <;> rfl) | (simp [*, errW_none, errW_some] <;> rfl), by repeat (first | (with_reducible first | exact HI0.out | apply IsS50.alloc | apply IsS50.drewN | apply IsS50.drew) | exact HI0.out), by repeat (first | (with_reducible first | exact HB.out | apply below_alloc | apply pw_below_drewN | apply below_drew1 | refine below_set ?_ (IsS50.ge HI0.out)) | exact HB.out), by repeat (first | (with_reducible first | exact HK.out | apply KeepBut.set_ | apply keep_drewN | apply keep_drew | apply keep_alloc) | exact HK.out)⟩
    · rw [if_neg c4] at H
      exact absurd H (by simp)

-- NOT PRINTED: function 41 (timer_Alarms_At)

-- NOT PRINTED: function 9 (echelonlaw10_TimerAlarms)

end Go.Proofs.Ytcdlccnpbhjgkaa.PTimerAlarms
