/- Kept of the text PlS: what is reached (wip/tools/prune.py). -/
import Derived.Test.YtkeadpichlgagaaVKeM
import Derived.Test.YtkeadpichlgagaaVSl
import Derived.Test.YtkeadpichlgagaaVWvK
import Derived.Test.YtkeadpichlgagaaVWKept
import Derived.Test.YtkeadpichlgagaaVWMore
import Derived.Lib.OwnBridge
import Derived.Lib.EndianMore
import Derived.Lib.SliceRun
import Derived.Test.YtkeadpichlgagaaVPWaveReadyx10
namespace Go.Proofs.Ytkeadpichlgagaa.PlS
open Go.RowKit Go.Lib Go.Sort Go.Shelf Go.Proofs.YtkeadpichlgagaaW.PrintWords Go.Proofs.YtkeadpichlgagaaW.PrintLast Go.Proofs.YtkeadpichlgagaaW.PrintMore
open Go.Proofs.Ytkeadpichlgagaa.Mp
set_option linter.unusedVariables false
set_option linter.unusedSimpArgs false
theorem spot_none {w : World} {p : Addr} {v : Value} (h : w.cell? p = some v) : p.spot = none := by
  unfold World.cell? at h
  split at h
  · split at h
    · cases h
    · rename_i hs; simpa using hs
  · cases h
theorem C_cells {w : World} {ad : Addr} {n : Nat} {xs : List Int} (h : (Kd.int .i64).C w (some ad) n xs) (hn : n = xs.length) : ∀ j, j < xs.length → w.cell? (ad.add j) = some (.int .i64 (xs.getD j 0)) := by
  intro j hj
  obtain ⟨_, e, y⟩ := Kd.at_int h (j : Int) (by omega) (by omega)
  injection e with e
  subst e
  simpa [Go.Proofs.YtkeadpichlgagaaW.PrintWords.rd] using y
theorem C_none {w : World} {n : Nat} {xs : List Int} (h : (Kd.int .i64).C w none n xs) (hn : n = xs.length) : xs = [] := by
  cases hx : xs with
  | nil => rfl
  | cons x r =>
    subst hn
    obtain ⟨_, e, _⟩ := Kd.at_int h 0 (by omega) (by rw [hx]; simp)
    cases e
theorem R_own3 {w : World} {B : Nat} {v : Value} {xs : List Int} {n : Nat} (h : w.ownsRow B 3 1 v n (xs.map (Value.int .i64))) : (Kd.int .i64).R 3 w B (fun _ => True) v xs := by
  have hn : n = xs.length := by have := h.1; simp at this; omega
  subst hn
  exact Kd.R_of_own (α := Int) (enc := Value.int .i64) (h1 := fun _ => rfl) h (fun k hk => trivial)
def slices_Clone_int_int.f (l : List Int) : Option (List Int) := if l.length ≤ 1000000 then some l else none
theorem slices_Clone_int_int.calls (A0 : Option Addr) (c0 : Nat) (l0 : List Int) (r : List Int) (w : World) (hr0 : Kd.C (Kd.int .i64) w A0 l0.length l0) (hc0 : l0.length ≤ c0) (h : slices_Clone_int_int.f l0 = some r) :
    Calls Try.prog 86 #[.slice A0 l0.length c0] w fun e w' => ∃ v0_ : Value, e = .returned (v0_) ∧ Kd.R (Kd.int .i64) 3 w' w.heap.size (fun _ => True) v0_ r ∧ Below w.heap.size w w' := by
  unfold slices_Clone_int_int.f at h
  split at h
  · rename_i hl
    obtain rfl := Option.some.inj h
    cases A0 with
    | none =>
      obtain rfl := C_none hr0 rfl
      exact (AnyG.slices_Clone_int_nil Ke.cloneA 0 c0 w).mono fun e w' ⟨he, hw⟩ => ⟨_, he, Kd.R_nil _ _ _ _ _, by rw [hw]; exact Below.refl _ _⟩
    | some ad =>
      by_cases h0 : l0.length = 0
      · obtain rfl := List.length_eq_zero_iff.1 h0
        refine (AnyG.slices_Clone_int_zero Ke.cloneA ad c0 w).mono fun e w' ⟨v, he, ho, _, hb⟩ => ⟨v, he, (R_own3 (xs := []) ho), hb⟩
      · have hc := C_cells hr0 rfl
        have hs : ad.spot = none := spot_none (hc 0 (by omega))
        obtain ⟨b, off, sp⟩ := ad
        simp only at hs
        subst hs
        refine (AnyG.slices_Clone_int Ke.cloneA b off l0.length c0 l0 w (Nat.le_refl _) (by omega) (fun j hj => by have := hc j hj; rwa [Addr.add_lit] at this)).mono fun e w' ⟨v, he, ho, _, hb⟩ => ?_
        rw [List.take_length] at ho
        exact ⟨v, he, R_own3 ho, hb⟩
  · cases h
def slices_Sort_int_int.f (l : List Int) : Option (List Int) := if l.length ≤ 1000000000 then some (Wv.asc l) else none
theorem slices_Sort_int_int.calls (P0_ : Nat → Prop) (u9000_ : Value) (l0 : List Int) (r : List Int) (w0 w : World) (hB : Below w0.heap.size w0 w) (ho0 : Kd.R (Kd.int .i64) 3 w w0.heap.size P0_ u9000_ l0) (h : slices_Sort_int_int.f l0 = some r) :
    Calls Try.prog 76 #[u9000_] w fun e w' => e = .returned (.tuple #[]) ∧ Kd.R (Kd.int .i64) 3 w' w0.heap.size (fun k_ => (P0_ k_ ∨ w.heap.size ≤ k_)) u9000_ r ∧ Below w0.heap.size w0 w' ∧ Kept w w' (fun k_ => P0_ k_) := by
  unfold slices_Sort_int_int.f at h
  split at h
  · rename_i hl
    obtain rfl := Option.some.inj h
    refine (Wv.sort_calls u9000_ l0 w w0.heap.size P0_ ho0 (by omega)).mono ?_
    rintro e w' ⟨rfl, hr, hg⟩
    refine ⟨rfl, Kd.R_mono hr (fun k hk => .inl hk), ?_, ?_⟩
    · refine hB.trans ⟨hg.os, hg.tape, hg.output, hg.size, fun k hk => hg.block k (by have := hB.size; omega) (fun e => ?_)⟩
      obtain ⟨inner, hown⟩ := Kd.R_own ho0
      have := (hown.lt k e.symm).1
      omega
    · exact ⟨hg.size, fun k hk hP => hg.block k hk (fun e => hP (ho0.1 k e.symm))⟩
  · cases h
def echelonref14_Order.f (k : Nat) (l0 : List (List Int)) : Option (List Int × Int) := PWaveReady.echelonref14_Order.f k l0
theorem echelonref14_Order.mono : ∀ a0 k, LeO (echelonref14_Order.f k a0) (echelonref14_Order.f (k + 1) a0) := PWaveReady.echelonref14_Order.mono
theorem echelonref14_Order.calls (k : Nat) (A0 : Option Addr) (c0 : Nat) (l0 : List (List Int)) (r1 : List Int) (r2 : Int) (w : World) (hr0 : Kd.C (Kd.slice 3 (Kd.int .i64)) w A0 l0.length l0) (hc0 : l0.length ≤ c0) (h : echelonref14_Order.f k l0 = some (r1, r2)) :
    Calls Try.prog 20 #[.slice A0 l0.length c0] w fun e w' => ∃ v0_ : Value, e = .returned (.tuple #[v0_, .int .i64 r2]) ∧ Kd.R (Kd.int .i64) 3 w' w.heap.size (fun _ => True) v0_ r1 ∧ Below w.heap.size w w' := PWaveReady.echelonref14_Order.calls k A0 c0 l0 r1 r2 w hr0 hc0 h
end Go.Proofs.Ytkeadpichlgagaa.PlS
