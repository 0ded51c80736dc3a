/- Kept of the text OfQ: what is reached (wip/tools/prune.py). -/
import Derived.Test.YtcdlccnpbhjgkaaVOfP
namespace Go.Proofs.Ytcdlccnpbhjgkaa.OfP
open Go.RowKit Go.Proofs.YtcdlccnpbhjgkaaW.PrintWords Go.Proofs.YtcdlccnpbhjgkaaW.PrintLast Go.Proofs.YtcdlccnpbhjgkaaW.PrintMore
open Go.Proofs.Ytcdlccnpbhjgkaa.POrderBytes
set_option linter.unusedVariables false
set_option linter.unusedSimpArgs false
theorem C_one82 {w : World} {g : Nat} {o : S82} (h : w.heap[g]? = some (.cells #[.int .i64 o.f0, .int .i64 o.f1, .int .i64 o.f2, .int .i64 o.f3] 82 (0, 0))) : Kd.C k82 w (some ⟨g, 0, none⟩) [o].length [o] := by
  refine ⟨rfl, by simp, fun _ => ⟨_, rfl, fun j p hp => ?_⟩⟩
  obtain rfl : j = 0 := by have := (List.getElem?_eq_some_iff.1 hp).1; simpa using this
  have hp : o = p := by simpa using hp
  subst hp
  refine ⟨_, rfl, k82_mk w o, fun i u hu => ?_⟩
  rw [Nat.zero_mul, Nat.zero_add, add_plain]
  exact (blk_cell h i).trans (by simpa using hu)
theorem pass_one (o : S82) (b g : Nat) (id ep r id' ep' : Int) (w : World) (h : passF [o] id ep = (r, id', ep')) (hb : w.heap[b]? = some (.cells #[.int .i64 id, .int .i64 ep] 78 (0, 0)))
    (hg : w.heap[g]? = some (.cells #[.int .i64 o.f0, .int .i64 o.f1, .int .i64 o.f2, .int .i64 o.f3] 82 (0, 0))) :
    Calls Try.prog 47 #[.pointer (some ⟨b, 0, none⟩), .slice (some ⟨g, 0, none⟩) 1 1] w fun e w' => e = .returned (.int .i64 r) ∧ w'.heap[b]? = some (.cells #[.int .i64 id', .int .i64 ep'] 78 (0, 0)) ∧ Fr1 w w' b := by
  have c := pass_calls (some ⟨g, 0, none⟩) 1 [o] b id ep w (C_one82 hg) (by simp) hb (fun a h _ => by cases h; exact (blk_ne hb hg (by decide)).symm) (by simp)
  rw [h] at c
  exact c
theorem awake_calls (w : World) : Calls Try.prog 44 #[] w fun e w' => e = .returned (.bool true) ∧ Below w.heap.size w w' := by
  have HB0 := Aside0.mk (((Below.refl w.heap.size w).alloc (Nat.le_refl _) (.cells #[.int .i64 0, .int .i64 0] 78)))
  have BK0 := Aside0.mk (blk_new w (.cells #[.int .i64 0, .int .i64 0] 78))
  go_enter Try.func44, Try.ntmps44
  go_wp2_with fail
  refine (pass_one ⟨3, 1, 0, 0⟩ w.heap.size _ 0 0 0 3 1 _ (by decide +kernel) (blk_alloc BK0.out _) (by simpa using blk_new (w.alloc _) _)).mono ?_
  rintro e w1 ⟨rfl, bk, fr⟩
  have BK1 := Aside0.mk bk
  have HB1 := Aside0.mk ((HB0.out.alloc (Nat.le_of_lt (blk_lt BK0.out)) _).trans (fr.to_below (Nat.le_refl _) (by simp; omega)))
  clear bk fr HB0 BK0
  go_wp2_with fail
  refine (pass_one ⟨3, 1, 0, 0⟩ w.heap.size _ 3 1 131 3 1 _ (by decide +kernel) (blk_alloc BK1.out _) (blk_new _ _)).mono ?_
  rintro e w2 ⟨rfl, bk, fr⟩
  have BK2 := Aside0.mk bk
  have HB2 := Aside0.mk ((HB1.out.alloc (Nat.le_of_lt (blk_lt BK1.out)) _).trans (fr.to_below (Nat.le_refl _) (by have := blk_lt BK1.out; simp; omega)))
  clear bk fr HB1 BK1
  go_wp2_with fail
  refine (pass_one ⟨2, 5, 0, 0⟩ w.heap.size _ 3 1 70 3 1 _ (by decide +kernel) (blk_alloc BK2.out _) (blk_new _ _)).mono ?_
  rintro e w3 ⟨rfl, bk, fr⟩
  have BK3 := Aside0.mk bk
  have HB3 := Aside0.mk ((HB2.out.alloc (Nat.le_of_lt (blk_lt BK2.out)) _).trans (fr.to_below (Nat.le_refl _) (by have := blk_lt BK2.out; simp; omega)))
  clear bk fr HB2 BK2
  go_wp2_with fail
  refine (pass_one ⟨4, 0, 0, 0⟩ w.heap.size _ 3 1 70 3 1 _ (by decide +kernel) (blk_alloc BK3.out _) (blk_new _ _)).mono ?_
  rintro e w4 ⟨rfl, bk, fr⟩
  have BK4 := Aside0.mk bk
  have HB4 := Aside0.mk ((HB3.out.alloc (Nat.le_of_lt (blk_lt BK3.out)) _).trans (fr.to_below (Nat.le_refl _) (by have := blk_lt BK3.out; simp; omega)))
  clear bk fr HB3 BK3
  go_wp2_with fail
  refine (pass_one ⟨4, 1, 0, 0⟩ w.heap.size _ 3 1 0 4 1 _ (by decide +kernel) (blk_alloc BK4.out _) (blk_new _ _)).mono ?_
  rintro e w5 ⟨rfl, bk, fr⟩
  have BK5 := Aside0.mk bk
  have HB5 := Aside0.mk ((HB4.out.alloc (Nat.le_of_lt (blk_lt BK4.out)) _).trans (fr.to_below (Nat.le_refl _) (by have := blk_lt BK4.out; simp; omega)))
  clear bk fr HB4 BK4
  have f0 : w5.cell? ⟨w.heap.size, 0, none⟩ = some (.int .i64 4) := (blk_cell BK5.out 0).trans rfl
  go_wp2_with fail
  go_ret
  exact ⟨rfl, HB5.out⟩
end Go.Proofs.Ytcdlccnpbhjgkaa.OfP
