/- MouldShapes, walked. -/
import Derived.Test.YtcdlccnpbhjgkaaMrA
import Derived.Test.YtcdlccnpbhjgkaaMoA
namespace Go.Proofs.Ytcdlccnpbhjgkaa.Mo
open Go.RowKit Go.Maps Go.Proofs.YtcdlccnpbhjgkaaW.PrintWords Go.Proofs.YtcdlccnpbhjgkaaW.PrintLast Go.Proofs.YtcdlccnpbhjgkaaW.PrintMore
open Go.Proofs.Ytcdlccnpbhjgkaa.PMouldPuts Go.Proofs.Ytcdlccnpbhjgkaa.Mp
set_option linter.unusedVariables false
set_option linter.unusedSimpArgs false

theorem CStr_two (w : World) (x y : ByteArray) : Kd.string.C (w.alloc (.cells #[.string x, .string y] 9)) (some ⟨w.heap.size, 0, none⟩) 2 [x, y] := by
  have hr : Reps (Kd.string.K w) 1 [x, y] [.string x, .string y] := by
    have := Reps.snoc (Reps.snoc (Reps.none (Kd.string.K w) 1) (p := x) (c := [.string x]) rfl rfl) (p := y) (c := [.string y]) rfl rfl
    simpa using this
  have h := OwnRow.lit (e := 9) w w.heap.size hr (Nat.le_refl _) (by simp)
  obtain ⟨A, c, he, _, hC⟩ := h.reads
  cases he
  exact hC.imp_ (Below.refl _ _) (fun p c hp => Kd.string.K_below ((Below.refl _ _).alloc (Nat.le_refl _) _) hp)
theorem refright_calls (s : ByteArray) (w : World) : Calls Try.prog 15 #[.string s] w fun e w' => e = .returned (.bool (okS s)) ∧ Below w.heap.size w w' := by
  obtain ⟨k, hk⟩ := (right_val s).rounds
  exact (echelonref01_Right.calls k s _ w hk).mono fun e w' ⟨he, hd⟩ => ⟨he, hd.below⟩
set_option maxHeartbeats 1000000 in
set_option maxRecDepth 100000 in
theorem shapes_calls (a b : ByteArray) (w : World) : Calls Try.prog 3 #[.string a, .string b] w fun e w' => e = .returned (.bool true) ∧ Below w.heap.size w w' := by
  go_enter Try.func3, Try.ntmps3
  go_wp2_with fail
  refine (awake_calls _).mono ?_
  rintro e w1 ⟨rfl, hB⟩
  have HB1 := Aside0.mk hB
  clear hB
  go_wp2_with fail
  refine (refright_calls a w1).mono ?_
  rintro e w2 ⟨rfl, hB⟩
  have HB2 := Aside0.mk (HB1.out.trans (hB.mono HB1.out.size))
  clear hB HB1
  go_wp2_with fail
  refine (refright_calls b w2).mono ?_
  rintro e w3 ⟨rfl, hB⟩
  have HB3 := Aside0.mk (HB2.out.trans (hB.mono HB2.out.size))
  clear hB HB2
  have HR1 := right_calls _ 1 1 _ _ (CStr_new w3 a)
  have HR2 := fun w4 => right_calls _ 2 2 _ _ (CStr_two w4 a b)
  have e1 : [a].all okS = okS a := by simp
  have e2 : [a, b].all okS = (okS a && okS b) := by simp
  rw [e1] at HR1
  simp only [e2] at HR2
  have HR1 := Aside0.mk HR1
  have HR2 := Aside0.mk HR2
  have HR3 : Aside0 (∀ w5, Calls Try.prog 16 #[.slice none 0 0] w5 fun e w' => e = .returned (.bool true) ∧ Below w5.heap.size w5 w') := ⟨fun w5 => right_calls none 0 0 [] w5 (Kd.C_nil _ _)⟩
  have HBa : Aside0 (Below w.heap.size w (w3.alloc (.cells #[.string a] 9))) := ⟨HB3.out.alloc HB3.out.size _⟩
  clear e1 e2
  generalize okS a = x at HR1 HR2 ⊢
  generalize okS b = y at HR2 ⊢
  have t1 : (x == x) = true := by simp
  have t2 : ((x && y) == (x && y)) = true := by simp
  go_wp2_with fail
  refine HR1.out.mono ?_
  rintro e w4 ⟨rfl, hB⟩
  have HB4 := Aside0.mk (HBa.out.trans (hB.mono HBa.out.size))
  clear hB HBa HR1
  have HBb : Aside0 (Below w.heap.size w (w4.alloc (.cells #[.string a, .string b] 9))) := ⟨HB4.out.alloc HB4.out.size _⟩
  have HR2 := Aside0.mk (HR2.out w4)
  go_wp2_with fail
  refine HR2.out.mono ?_
  rintro e w5 ⟨rfl, hB⟩
  have HB5 := Aside0.mk (HBb.out.trans (hB.mono HBb.out.size))
  clear hB HBb HR2
  cases x with
  | true =>
    go_wp2_with fail
    refine (HR3.out _).mono ?_
    rintro e w6 ⟨rfl, hB⟩
    have HB6 := Aside0.mk (HB5.out.trans (hB.mono HB5.out.size))
    clear hB HR3
    go_wp2_with fail
    go_ret
    exact ⟨by simp, HB6.out⟩
  | false =>
    go_wp2_with fail
    refine (HR3.out _).mono ?_
    rintro e w6 ⟨rfl, hB⟩
    have HB6 := Aside0.mk (HB5.out.trans (hB.mono HB5.out.size))
    clear hB HR3
    go_wp2_with fail
    go_ret
    exact ⟨by simp, HB6.out⟩
end Go.Proofs.Ytcdlccnpbhjgkaa.Mo
