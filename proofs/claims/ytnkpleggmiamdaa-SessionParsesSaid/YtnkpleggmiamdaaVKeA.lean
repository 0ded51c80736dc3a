/- Kept of the text KeA: what is reached (wip/tools/prune.py). -/
import Derived.Shelf.SlIterI.Nil
import Derived.Shelf.SortM.Plain
import Derived.Shelf.SortM.SortNone
import Derived.Test.YtnkpleggmiamdaaProg
import Derived.Test.YtnkpleggmiamdaaVSl
namespace Go.Proofs.Ytnkpleggmiamdaa.Ke
open Go.RowKit Go.Maps Go.Sort Go.Shelf Go.Proofs.YtnkpleggmiamdaaW.PrintWords
open Go.Proofs.Ytnkpleggmiamdaa.Mp (MapIs)
set_option linter.unusedVariables false
def sortedA_ren : Go.Shelf.Ren := ⟨fun | 6 => 62 | 8 => 85 | 9 => 86 | 11 => 99 | 13 => 101 | 12 => 100 | 23 => 115 | 24 => 74 | 14 => 106 | 15 => 107 | 16 => 108 | 17 => 109 | 18 => 110 | 19 => 111 | 20 => 112 | 21 => 113 | 22 => 114 | 25 => 118 | 26 => 119 | 27 => 120 | 28 => 121 | 29 => 122 | 30 => 123 | 31 => 124 | n => n, fun | 26 => 3 | 28 => 112 | 24 => 22 | 0 => 0 | 3 => 3 | 37 => 121 | 48 => 176 | 50 => 102 | 4 => 4 | 40 => 169 | 39 => 168 | 45 => 173 | 5 => 5 | 9 => 9 | 51 => 179 | 55 => 182 | 57 => 184 | 58 => 185 | 33 => 64 | n => n, fun | n => n⟩
set_option maxRecDepth 100000 in
theorem sortedA : Go.Proofs.SlLaysZI.n6 Try.prog sortedA_ren := {
  mixed := by kernel_rfl,
  f6 := ⟨Try.f62.name, by decide, Try.func62.trans (congrArg some (by kernel_rfl))⟩,
  f8 := ⟨Try.f85.name, by decide, Try.func85.trans (congrArg some (by kernel_rfl))⟩,
  f11 := ⟨Try.f99.name, by decide, Try.func99.trans (congrArg some (by kernel_rfl))⟩,
  t0 := Try.underlying0,
  a0 := Try.isAgg0,
  z0 := Try.sizeOf0,
  v0 := Try.zeroValue0,
  t24 := Try.underlying22,
  a24 := Try.isAgg22,
  z24 := Try.sizeOf22,
  v24 := Try.zeroValue22,
  t26 := Try.underlying3,
  a26 := Try.isAgg3,
  z26 := Try.sizeOf3,
  v26 := Try.zeroValue3,
  t28 := Try.underlying112,
  a28 := Try.isAgg112,
  z28 := Try.sizeOf112,
  v28 := Try.zeroValue112,
  i26 := by kernel_rfl }
def sortA_ren : Go.Shelf.Ren := ⟨fun | 5 => 86 | 8 => 101 | 7 => 100 | 19 => 115 | 20 => 74 | 10 => 106 | 11 => 107 | 12 => 108 | 13 => 109 | 14 => 110 | 15 => 111 | 16 => 112 | 17 => 113 | 18 => 114 | 30 => 118 | 31 => 119 | 32 => 120 | 33 => 121 | 34 => 122 | 35 => 123 | 40 => 124 | n => n, fun | 23 => 22 | 25 => 3 | 3 => 3 | 32 => 121 | 22 => 22 | 0 => 0 | 44 => 176 | 46 => 102 | 4 => 4 | 36 => 169 | 35 => 168 | 41 => 173 | 5 => 5 | 9 => 9 | 53 => 179 | 57 => 182 | 63 => 184 | 64 => 185 | n => n, fun | n => n⟩
set_option maxRecDepth 100000 in
theorem sortA : Go.Proofs.SlLaysM.n5 Try.prog sortA_ren := {
  mixed := by kernel_rfl,
  f5 := ⟨Try.f86.name, by decide, Try.func86.trans (congrArg some (by kernel_rfl))⟩,
  f7 := ⟨Try.f100.name, by decide, Try.func100.trans (congrArg some (by kernel_rfl))⟩,
  f8 := Try.func101.trans (congrArg some (by kernel_rfl)),
  f10 := ⟨Try.f106.name, by decide, Try.func106.trans (congrArg some (by kernel_rfl))⟩,
  f11 := ⟨Try.f107.name, by decide, Try.func107.trans (congrArg some (by kernel_rfl))⟩,
  f12 := ⟨Try.f108.name, by decide, Try.func108.trans (congrArg some (by kernel_rfl))⟩,
  f13 := ⟨Try.f109.name, by decide, Try.func109.trans (congrArg some (by kernel_rfl))⟩,
  f14 := ⟨Try.f110.name, by decide, Try.func110.trans (congrArg some (by kernel_rfl))⟩,
  f15 := ⟨Try.f111.name, by decide, Try.func111.trans (congrArg some (by kernel_rfl))⟩,
  f16 := ⟨Try.f112.name, by decide, Try.func112.trans (congrArg some (by kernel_rfl))⟩,
  f17 := ⟨Try.f113.name, by decide, Try.func113.trans (congrArg some (by kernel_rfl))⟩,
  f18 := ⟨Try.f114.name, by decide, Try.func114.trans (congrArg some (by kernel_rfl))⟩,
  f19 := Try.func115.trans (congrArg some (by kernel_rfl)),
  f20 := Try.func74.trans (congrArg some (by kernel_rfl)),
  f30 := ⟨Try.f118.name, by decide, Try.func118.trans (congrArg some (by kernel_rfl))⟩,
  f31 := Try.func119.trans (congrArg some (by kernel_rfl)),
  f32 := Try.func120.trans (congrArg some (by kernel_rfl)),
  f33 := ⟨Try.f121.name, by decide, Try.func121.trans (congrArg some (by kernel_rfl))⟩,
  f34 := ⟨Try.f122.name, by decide, Try.func122.trans (congrArg some (by kernel_rfl))⟩,
  f35 := ⟨Try.f123.name, by decide, Try.func123.trans (congrArg some (by kernel_rfl))⟩,
  f40 := ⟨Try.f124.name, by decide, Try.func124.trans (congrArg some (by kernel_rfl))⟩,
  t0 := Try.underlying0,
  a0 := Try.isAgg0,
  z0 := Try.sizeOf0,
  v0 := Try.zeroValue0,
  t3 := Try.underlying3,
  a3 := Try.isAgg3,
  z3 := Try.sizeOf3,
  v3 := Try.zeroValue3,
  t4 := Try.underlying4,
  a4 := Try.isAgg4,
  z4 := Try.sizeOf4,
  v4 := Try.zeroValue4,
  t5 := Try.underlying5,
  a5 := Try.isAgg5,
  z5 := Try.sizeOf5,
  v5 := Try.zeroValue5,
  t9 := Try.underlying9,
  a9 := Try.isAgg9,
  z9 := Try.sizeOf9,
  v9 := Try.zeroValue9,
  t22 := Try.underlying22,
  a22 := Try.isAgg22,
  z22 := Try.sizeOf22,
  v22 := Try.zeroValue22,
  t23 := Try.underlying22,
  a23 := Try.isAgg22,
  z23 := Try.sizeOf22,
  v23 := Try.zeroValue22,
  t25 := Try.underlying3,
  a25 := Try.isAgg3,
  z25 := Try.sizeOf3,
  v25 := Try.zeroValue3,
  t32 := Try.underlying121,
  a32 := Try.isAgg121,
  z32 := Try.sizeOf121,
  v32 := Try.zeroValue121,
  t35 := Try.underlying168,
  a35 := Try.isAgg168,
  z35 := Try.sizeOf168,
  v35 := Try.zeroValue168,
  t36 := Try.underlying169,
  a36 := Try.isAgg169,
  z36 := Try.sizeOf169,
  v36 := Try.zeroValue169,
  t41 := Try.underlying173,
  a41 := Try.isAgg173,
  z41 := Try.sizeOf173,
  v41 := Try.zeroValue173,
  t44 := Try.underlying176,
  a44 := Try.isAgg176,
  z44 := Try.sizeOf176,
  v44 := Try.zeroValue176,
  t46 := Try.underlying102,
  a46 := Try.isAgg102,
  z46 := Try.sizeOf102,
  v46 := Try.zeroValue102,
  t53 := Try.underlying179,
  a53 := Try.isAgg179,
  z53 := Try.sizeOf179,
  v53 := Try.zeroValue179,
  t57 := Try.underlying182,
  a57 := Try.isAgg182,
  z57 := Try.sizeOf182,
  v57 := Try.zeroValue182,
  t63 := Try.underlying184,
  a63 := Try.isAgg184,
  z63 := Try.sizeOf184,
  v63 := Try.zeroValue184,
  t64 := Try.underlying185,
  a64 := Try.isAgg185,
  z64 := Try.sizeOf185,
  v64 := Try.zeroValue185 }
theorem sortsA (m : Nat) : AnyZI.SortsIn Try.prog sortedA_ren Fence.wide m :=
  ⟨fun blk off cap ss W hH hblk hsz => callsIn_wide.2 (AnyM.slices_Sort_int sortA blk off cap ss W hH hblk hsz),
   fun p cap W => callsIn_wide.2 (AnyM.slices_Sort_int_none sortA p cap W)⟩
def anyR (v : Value) : Option (DataW Unit × List MemPlace) := some (.nil, [])
theorem owns_of_map {w : World} {b : Nat} {l : List (Int × Value)} (h : MapIs w b l) (hw : ∀ x ∈ l, (Lit.int .i64 x.1).wf = true) (hnd : (l.map (·.1)).Nodup) (hl : l.length ≤ 100000) :
    ∃ D : DataW Unit, w.ownsMap Try.prog 3 anyR b l.length D ∧ (intKeys D).Perm (l.map (·.1)) ∧ Maps.size D = l.length := by
  obtain ⟨es, clock, hb, hes, hbo, hbn⟩ := h.out
  have hlen : es.size = l.length := by have := congrArg List.length hes; simpa using this
  have hk : es.toList.map (·.key) = l.map (fun p => Value.int .i64 p.1) := by
    have := congrArg (List.map Prod.fst) hes
    simpa [List.map_map, Function.comp_def] using this
  have hrd : ∀ x ∈ es.toList, ∃ k : Int, x.key = .int .i64 k ∧ (Lit.int .i64 k).wf = true := fun x hx => by
    have : x.key ∈ l.map (fun p => Value.int .i64 p.1) := by rw [← hk]; exact List.mem_map_of_mem hx
    obtain ⟨p, hp, e⟩ := List.mem_map.1 this
    exact ⟨p.1, e.symm, hw p hp⟩
  have hr : ∀ x ∈ es.toList, ∃ k : Int, x.key = .int .i64 k ∧ Go.WideElems.rd Try.prog 3 anyR x = some (.int .i64 k, .nil) := fun x hx => by
    obtain ⟨k, hkx, hwf⟩ := hrd x hx
    refine ⟨k, hkx, ?_⟩
    obtain ⟨key, val, born⟩ := x
    simp only at hkx
    subst hkx
    exact Go.WideElems.rd_mk (R := anyR) (yv := (.nil, [])) (keyOf_int_mk Try.underlying3 hwf) rfl
  refine ⟨.map ((es.toList.map (Go.WideElems.rg Try.prog 3 anyR)).foldr DataW.insert []), ⟨es, clock, hb, ⟨?_, ⟨hbo, hbn, ?_⟩, fun x hx => ?_⟩, by omega, rfl⟩, ?_, ?_⟩
  · rw [hlen]; exact Nat.le_trans hl (by decide)
  · rw [hk]
    exact List.pairwise_map.2 ((List.pairwise_map.1 hnd).imp (fun h e => h (by injection e)))
  · obtain ⟨k, _, e⟩ := hr x hx
    exact ⟨_, e⟩
  · have hp := Go.WideShapes.sorted_perm (es.toList.map (Go.WideElems.rg Try.prog 3 anyR))
    have h1 := hp.map (fun p => Go.intOf p.1)
    refine h1.trans ?_
    have e : (es.toList.map (Go.WideElems.rg Try.prog 3 anyR)).map (fun p => Go.intOf p.1) = l.map (·.1) := by
      have h2 : (es.toList.map (·.key)).map (fun v => match v with | .int _ k => k | _ => 0) = l.map (·.1) := by
        rw [hk]; simp
      rw [← h2, List.map_map, List.map_map]
      refine List.map_congr_left (fun x hx => ?_)
      obtain ⟨k, hkx, e⟩ := hr x hx
      simp only [Function.comp, Go.WideElems.rg_of e, hkx, Go.intOf]
    rw [e]
  · show ((es.toList.map (Go.WideElems.rg Try.prog 3 anyR)).foldr DataW.insert []).length = _
    rw [(Go.WideShapes.sorted_perm _).length_eq, List.length_map, Array.length_toList, hlen]
def asc (l : List Int) : List Int := l.mergeSort (fun x y => decide (x ≤ y))
theorem of_sorted {w w' : World} {v : Value} {ss ks : List Int} (hp : ss.Perm ks) (hrow : w'.ownsRow w.heap.size 3 1 v ss.length ((ss.mergeSort (fun x y => decide (x ≤ y))).map encZ)) : Kd.R (Kd.int .i64) 3 w' w.heap.size (fun k => w.heap.size ≤ k) v (asc ks) := by
  have e : ss.mergeSort (fun x y => decide (x ≤ y)) = asc ks := mergeSort_of_perm_i hp
  rw [e] at hrow
  have hl : ss.length = (asc ks).length := by unfold asc; rw [List.length_mergeSort, hp.length_eq]
  rw [hl] at hrow
  have hrow' : w'.ownsRow w.heap.size 3 1 v (asc ks).length (encs (Value.int .i64) (asc ks)) := hrow
  refine Kd.R_of_own hrow' (fun k hk => ?_)
  rcases hrow'.2 with ⟨e, _⟩ | ⟨g, cap, cur, e, hg, _⟩
  · rw [e] at hk; cases hk
  · rw [e] at hk
    have : g = k := by simpa [Value.ownBlock] using hk
    omega
end Go.Proofs.Ytnkpleggmiamdaa.Ke
