/- slices.Sort and slices.Compact at ints, and when nothing stands twice. -/
import Derived.Shelf.SlicesG.CompactI
import Derived.Shelf.SortM.Plain
import Derived.Shelf.SortM.SortNone
import Derived.Lib.SlKeysI
import Derived.Test.YtcdlccnpbhjgkaaProg
import Derived.Test.YtcdlccnpbhjgkaaSl
namespace Go.Proofs.Ytcdlccnpbhjgkaa.So
open Go.RowKit Go.Maps Go.Sort Go.Shelf Go.Proofs.YtcdlccnpbhjgkaaW.PrintWords
set_option linter.unusedVariables false

def sortA_ren : Go.Shelf.Ren := ⟨fun | 5 => 79 | 8 => 101 | 7 => 100 | 19 => 114 | 20 => 103 | 10 => 105 | 11 => 106 | 12 => 107 | 13 => 108 | 14 => 109 | 15 => 110 | 16 => 111 | 17 => 112 | 18 => 113 | 30 => 117 | 31 => 118 | 32 => 119 | 33 => 120 | 34 => 121 | 35 => 122 | 40 => 123 | n => n, fun | 23 => 46 | 25 => 3 | 3 => 3 | 32 => 169 | 22 => 46 | 0 => 0 | 44 => 184 | 46 => 26 | 4 => 4 | 36 => 178 | 35 => 177 | 41 => 71 | 5 => 5 | 9 => 9 | 53 => 188 | 57 => 191 | 63 => 194 | 64 => 195 | n => n, fun | n => n⟩
set_option maxRecDepth 100000 in
theorem sortA : Go.Proofs.SlLaysM.n5 Try.prog sortA_ren := {
  mixed := by kernel_rfl,
  f5 := ⟨Try.f79.name, by decide, Try.func79.trans (congrArg some (by kernel_rfl))⟩,
  f7 := ⟨Try.f100.name, by decide, Try.func100.trans (congrArg some (by kernel_rfl))⟩,
  f8 := Try.func101.trans (congrArg some (by kernel_rfl)),
  f10 := ⟨Try.f105.name, by decide, Try.func105.trans (congrArg some (by kernel_rfl))⟩,
  f11 := ⟨Try.f106.name, by decide, Try.func106.trans (congrArg some (by kernel_rfl))⟩,
  f12 := ⟨Try.f107.name, by decide, Try.func107.trans (congrArg some (by kernel_rfl))⟩,
  f13 := ⟨Try.f108.name, by decide, Try.func108.trans (congrArg some (by kernel_rfl))⟩,
  f14 := ⟨Try.f109.name, by decide, Try.func109.trans (congrArg some (by kernel_rfl))⟩,
  f15 := ⟨Try.f110.name, by decide, Try.func110.trans (congrArg some (by kernel_rfl))⟩,
  f16 := ⟨Try.f111.name, by decide, Try.func111.trans (congrArg some (by kernel_rfl))⟩,
  f17 := ⟨Try.f112.name, by decide, Try.func112.trans (congrArg some (by kernel_rfl))⟩,
  f18 := ⟨Try.f113.name, by decide, Try.func113.trans (congrArg some (by kernel_rfl))⟩,
  f19 := Try.func114.trans (congrArg some (by kernel_rfl)),
  f20 := Try.func103.trans (congrArg some (by kernel_rfl)),
  f30 := ⟨Try.f117.name, by decide, Try.func117.trans (congrArg some (by kernel_rfl))⟩,
  f31 := Try.func118.trans (congrArg some (by kernel_rfl)),
  f32 := Try.func119.trans (congrArg some (by kernel_rfl)),
  f33 := ⟨Try.f120.name, by decide, Try.func120.trans (congrArg some (by kernel_rfl))⟩,
  f34 := ⟨Try.f121.name, by decide, Try.func121.trans (congrArg some (by kernel_rfl))⟩,
  f35 := ⟨Try.f122.name, by decide, Try.func122.trans (congrArg some (by kernel_rfl))⟩,
  f40 := ⟨Try.f123.name, by decide, Try.func123.trans (congrArg some (by kernel_rfl))⟩,
  t0 := Try.underlying0,
  a0 := Try.isAgg0,
  z0 := Try.sizeOf0,
  v0 := Try.zeroValue0,
  t3 := Try.underlying3,
  a3 := Try.isAgg3,
  z3 := Try.sizeOf3,
  v3 := Try.zeroValue3,
  t4 := Try.underlying4,
  a4 := Try.isAgg4,
  z4 := Try.sizeOf4,
  v4 := Try.zeroValue4,
  t5 := Try.underlying5,
  a5 := Try.isAgg5,
  z5 := Try.sizeOf5,
  v5 := Try.zeroValue5,
  t9 := Try.underlying9,
  a9 := Try.isAgg9,
  z9 := Try.sizeOf9,
  v9 := Try.zeroValue9,
  t22 := Try.underlying46,
  a22 := Try.isAgg46,
  z22 := Try.sizeOf46,
  v22 := Try.zeroValue46,
  t23 := Try.underlying46,
  a23 := Try.isAgg46,
  z23 := Try.sizeOf46,
  v23 := Try.zeroValue46,
  t25 := Try.underlying3,
  a25 := Try.isAgg3,
  z25 := Try.sizeOf3,
  v25 := Try.zeroValue3,
  t32 := Try.underlying169,
  a32 := Try.isAgg169,
  z32 := Try.sizeOf169,
  v32 := Try.zeroValue169,
  t35 := Try.underlying177,
  a35 := Try.isAgg177,
  z35 := Try.sizeOf177,
  v35 := Try.zeroValue177,
  t36 := Try.underlying178,
  a36 := Try.isAgg178,
  z36 := Try.sizeOf178,
  v36 := Try.zeroValue178,
  t41 := Try.underlying71,
  a41 := Try.isAgg71,
  z41 := Try.sizeOf71,
  v41 := Try.zeroValue71,
  t44 := Try.underlying184,
  a44 := Try.isAgg184,
  z44 := Try.sizeOf184,
  v44 := Try.zeroValue184,
  t46 := Try.underlying26,
  a46 := Try.isAgg26,
  z46 := Try.sizeOf26,
  v46 := Try.zeroValue26,
  t53 := Try.underlying188,
  a53 := Try.isAgg188,
  z53 := Try.sizeOf188,
  v53 := Try.zeroValue188,
  t57 := Try.underlying191,
  a57 := Try.isAgg191,
  z57 := Try.sizeOf191,
  v57 := Try.zeroValue191,
  t63 := Try.underlying194,
  a63 := Try.isAgg194,
  z63 := Try.sizeOf194,
  v63 := Try.zeroValue194,
  t64 := Try.underlying195,
  a64 := Try.isAgg195,
  z64 := Try.sizeOf195,
  v64 := Try.zeroValue195 }
def compA_ren : Go.Shelf.Ren := ⟨fun | 43 => 80 | n => n, fun | 22 => 46 | 23 => 3 | 3 => 3 | 4 => 4 | 0 => 0 | n => n, fun | n => n⟩
set_option maxRecDepth 100000 in
theorem compA : Go.Proofs.SlLaysN.n43 Try.prog compA_ren := {
  mixed := by kernel_rfl,
  f43 := ⟨Try.f80.name, by decide, Try.func80.trans (congrArg some (by kernel_rfl))⟩,
  t0 := Try.underlying0,
  a0 := Try.isAgg0,
  z0 := Try.sizeOf0,
  v0 := Try.zeroValue0,
  t3 := Try.underlying3,
  a3 := Try.isAgg3,
  z3 := Try.sizeOf3,
  v3 := Try.zeroValue3,
  t4 := Try.underlying4,
  a4 := Try.isAgg4,
  z4 := Try.sizeOf4,
  v4 := Try.zeroValue4,
  t22 := Try.underlying46,
  a22 := Try.isAgg46,
  z22 := Try.sizeOf46,
  v22 := Try.zeroValue46,
  t23 := Try.underlying3,
  a23 := Try.isAgg3,
  z23 := Try.sizeOf3,
  v23 := Try.zeroValue3,
  i23 := by kernel_rfl }

/-- Ascending. -/
def asc (l : List Int) : List Int := l.mergeSort (fun x y => decide (x ≤ y))
theorem asc_perm (l : List Int) : (asc l).Perm l := List.mergeSort_perm _ _
theorem asc_len (l : List Int) : (asc l).length = l.length := (asc_perm l).length_eq
theorem asc_sorted (l : List Int) : (asc l).Pairwise (fun x y => x ≤ y) := by
  have h := List.pairwise_mergeSort (le := fun x y : Int => decide (x ≤ y)) (fun a b c h1 h2 => by simp only [decide_eq_true_eq] at *; omega) (fun a b => by simp only [Bool.or_eq_true, decide_eq_true_eq]; omega) l
  exact h.imp (fun h => of_decide_eq_true h)

theorem row_parts {w : World} {B : Nat} {ok : Nat → Prop} {v : Value} {xs : List Int} (hR : Kd.R (Kd.int .i64) 3 w B ok v xs) :
    (v = .slice none 0 0 ∧ xs = []) ∨ ∃ g cap cur, v = .slice (some ⟨g, 0, none⟩) xs.length cap ∧ B ≤ g ∧ w.heap[g]? = some (.cells cur 3 (0, 0)) ∧ xs.length ≤ cap ∧ cap ≤ maxLen ∧ cur.size = cap * 1 ∧ cur.toList.take xs.length = xs.map encZ := by
  have ho := Kd.own_of_R hR
  rcases ho.2 with ⟨e, hz⟩ | ⟨g, cap, cur, e, hg, hb, r1, r2, r3, r4⟩
  · exact .inl ⟨e, List.length_eq_zero_iff.1 hz⟩
  · exact .inr ⟨g, cap, cur, e, hg, hb, r1, r2, r3, by rw [Nat.mul_one] at r4; exact r4⟩
theorem sort_calls (v : Value) (xs : List Int) (w : World) (B : Nat) (ok : Nat → Prop) (hR : Kd.R (Kd.int .i64) 3 w B ok v xs) (hl : xs.length < 4611686018427387904) :
    Calls Try.prog 79 #[v] w fun e w' => e = .returned (.tuple #[]) ∧ Kd.R (Kd.int .i64) 3 w' B ok v (asc xs) ∧ w.grownBy w' v.ownBlock := by
  have hok := hR.1
  rcases row_parts hR with ⟨rfl, rfl⟩ | ⟨g, cap, cur, rfl, hg, hb, r1, r2, r3, r4⟩
  · refine (AnyM.slices_Sort_int_none sortA none 0 w).mono ?_
    rintro e w' ⟨rfl, rfl⟩
    exact ⟨rfl, by rw [show asc [] = [] from List.length_eq_zero_iff.1 (asc_len [])]; exact hR, World.grownBy.refl _ _⟩
  · refine (AnyM.slices_Sort_int sortA g 0 cap xs w (holds_of_block_i hb r4) (Array.getElem?_eq_some_iff.1 hb).1 hl).mono ?_
    rintro e w' ⟨rfl, n, os, rfl⟩
    have hrow := ownsRow_sorted_i (w := w) (base := B) (n := n) (os := os) (e := 3) (ss := xs) (ts := asc xs) (asc_len xs) hg hb r1 r2 r3
    rw [← asc_len xs] at hrow hok ⊢
    exact ⟨rfl, Kd.R_of_own hrow hok, grownBy_sorted_i _⟩
theorem compact_calls (v : Value) (xs : List Int) (w : World) (B : Nat) (ok : Nat → Prop) (hR : Kd.R (Kd.int .i64) 3 w B ok v xs) (hl : xs.length ≤ 1000000) :
    Calls Try.prog 80 #[v] w fun e w' => ∃ A c, e = .returned (.slice A (Lib.compact xs).length c) ∧ w.grownBy w' v.ownBlock := by
  rcases row_parts hR with ⟨rfl, rfl⟩ | ⟨g, cap, cur, rfl, hg, hb, r1, r2, r3, r4⟩
  · refine (AnyG.slices_Compact_int_empty compA none 0 w).mono ?_
    rintro e w' ⟨rfl, rfl⟩
    exact ⟨none, 0, rfl, World.grownBy.refl _ _⟩
  · refine (AnyG.slices_Compact_int compA g 0 cap xs w (holds_of_block_i hb r4) (by omega) r1).mono ?_
    rintro e w' ⟨rfl, q, rfl⟩
    exact ⟨_, _, rfl, grownBy_sorted_i (os := #[]) _⟩

theorem compact_len (l : List Int) (hs : l.Pairwise (fun x y => x ≤ y)) : ((Lib.compact l).length = l.length) ↔ l.Nodup := by
  have e : (Lib.compact l).length = ((List.range l.length).filter (Lib.keeps l.toArray)).length := by
    unfold Lib.compact Lib.compactUpTo
    rw [List.length_map]
  have e2 : ((List.range l.length).filter (Lib.keeps l.toArray)).length = l.length ↔ ∀ j, j < l.length → Lib.keeps l.toArray j = true := by
    have := List.length_filter_eq_length_iff (p := Lib.keeps l.toArray) (l := List.range l.length)
    rw [List.length_range] at this
    rw [this]
    simp only [List.mem_range]
  have hg : ∀ j (h : j < l.length), l.toArray[j]! = l[j] := fun j h => by simp [h]
  have hp := List.pairwise_iff_getElem.1 hs
  rw [e, e2]
  constructor
  · intro h
    refine List.pairwise_iff_getElem.2 (fun i j hi hj hij => ?_)
    have hk := h j hj
    have h1 : l[j] ≠ l[j - 1] := by
      intro e
      have : Lib.keeps l.toArray j = false := Lib.keeps_neg (by omega) (by rw [hg j hj, hg (j - 1) (by omega)]; exact e)
      rw [this] at hk
      cases hk
    have h2 := hp (j - 1) j (by omega) hj (by omega)
    have h3 : l[i] ≤ l[j - 1] := by
      rcases Nat.lt_or_ge i (j - 1) with h | h
      · exact hp i (j - 1) hi (by omega) h
      · have : i = j - 1 := by omega
        subst this
        exact Int.le_refl _
    omega
  · intro h j hj
    have hn := List.pairwise_iff_getElem.1 h
    rcases Nat.eq_zero_or_pos j with rfl | hpos
    · exact Lib.keeps_lt_one _ 0 (by omega)
    · refine Lib.keeps_pos ?_
      rw [hg j hj, hg (j - 1) (by omega)]
      exact (hn (j - 1) j (by omega) hj (by omega)).symm
theorem compact_nodup (xs : List Int) : ((Lib.compact (asc xs)).length = xs.length) ↔ xs.Nodup := by
  rw [← asc_len xs, compact_len _ (asc_sorted xs), (asc_perm xs).nodup_iff]
end Go.Proofs.Ytcdlccnpbhjgkaa.So
