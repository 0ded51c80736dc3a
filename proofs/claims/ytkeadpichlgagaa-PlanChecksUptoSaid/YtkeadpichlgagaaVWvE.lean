/- Kept of the text WvE: what is reached (wip/tools/prune.py). -/
import Derived.Test.YtkeadpichlgagaaVWvD
namespace Go.Proofs.Ytkeadpichlgagaa.Wv
open Go.RowKit Go.Maps Go.Proofs.YtkeadpichlgagaaW.PrintWords Go.Proofs.YtkeadpichlgagaaW.PrintLast Go.Proofs.YtkeadpichlgagaaW.PrintMore
open Go.Proofs.Ytkeadpichlgagaa.PWaveReady Go.Proofs.Ytkeadpichlgagaa.Mp
set_option linter.unusedVariables false
set_option linter.unusedSimpArgs false
set_option linter.unnecessarySimpa false
theorem not_lt_of_le {a b : Int} (h : le b a) : ¬ lt a b := by unfold le at h; unfold lt; omega
theorem dn_still (f : Nat) (xs : Q) (i n : Nat) (h : HeapN xs n) (hn : n ≤ xs.length) : (dn f xs i n).1 = xs := by
  cases f with
  | zero => rfl
  | succ f =>
    unfold dn
    split
    · next h1 =>
      dsimp only
      generalize hj : (if 2 * i + 2 < n ∧ lt (g xs (2 * i + 2)) (g xs (2 * i + 1)) then 2 * i + 2 else 2 * i + 1) = j
      have hjn : j < n ∧ 0 < j := by subst hj; split <;> omega
      have hpj : par j = i := by subst hj; split <;> (unfold par; omega)
      have := h j hjn.2 hjn.1
      rw [hpj] at this
      rw [if_neg (not_lt_of_le this)]
    · rfl
theorem heap_of_sorted {xs : Q} (h : xs.Pairwise le) : HeapN xs xs.length := fun k h0 hk => by
  have hp := par_lt h0
  have e1 : g xs (par k) = xs[par k] := by simp [g, List.getD_eq_getElem?_getD, List.getElem?_eq_getElem (show par k < xs.length by omega)]
  have e2 : g xs k = xs[k] := by simp [g, List.getD_eq_getElem?_getD, List.getElem?_eq_getElem hk]
  rw [e1, e2]
  exact List.pairwise_iff_getElem.1 h _ _ (by omega) hk hp
set_option maxRecDepth 100000 in
theorem hinit_calls (B ab : Nat) (v : Value) (xs : Q) (w : World) (h : QIs w B ab v xs) (hs : HeapN xs xs.length) (hmx : xs.length ≤ 100000) :
    Calls Try.prog 105 #[qif ab] w fun e w' => e = .returned (.tuple #[]) ∧ QIs w' B ab v xs ∧ FrS (fun k => v.ownBlock = some k) w w' := by
  obtain ⟨A, c, rfl⟩ := Kd.R_slice h.row
  have hm := mLen ⟨ab, 0, none⟩ _ w h.cell
  have hcf := cf107
  have H := Aside0.mk h
  have HS := Aside0.mk hs
  unfold qif
  clear h hs
  go_enter Try.func105, Try.ntmps105
  go_wp2_with fail
  refine (qlen_calls _ _ _ w).mono ?_
  rintro e w1 ⟨rfl, rfl⟩
  clear hm hcf
  have e1 : wrap64 (wrap64 ((xs.length : Int).tdiv 2) - 1) = ((xs.length / 2 : Nat) : Int) - 1 := by
    have : (xs.length : Int).tdiv 2 = ((xs.length / 2 : Nat) : Int) := by rw [Int.tdiv_eq_ediv_of_nonneg (by omega)]; omega
    rw [this]; unfold wrap64; omega
  have e2 : (xs.length : Int) / 2 - 1 = ((xs.length / 2 : Nat) : Int) - 1 := by omega
  go_wp2_with fail
  clear e1 e2
  go_loopg [3] (xs.length / 2) (fun kq v3 wr => v3 = .int .i64 ((kq : Int) - 1) ∧ Aside0 (kq ≤ xs.length) ∧ Aside0 (QIs wr B ab (.slice A xs.length c) xs) ∧ Aside0 (FrS (fun k => (Value.slice A xs.length c).ownBlock = some k) w1 wr))
  case atStart => exact ⟨rfl, ⟨by omega⟩, H, ⟨FrS.refl _ _⟩⟩
  case round =>
    obtain ⟨rfl, HK, HI, HF⟩ := hrel
    cases gk with
    | zero =>
      go_wp2_with fail
      go_end0
      exact ⟨rfl, HI.out, HF.out⟩
    | succ kq =>
      have hk := HK.out
      have e3 : ((kq + 1 : Nat) : Int) - 1 = (kq : Int) := by omega
      rw [e3]
      go_wp2_with fail
      refine (hdown_calls B ab _ xs kq xs.length wr HI.out (by omega) (Nat.le_refl _) (by omega)).mono ?_
      rintro e w2 ⟨rfl, hI, hF⟩
      rw [dn_still _ _ _ _ HS.out (Nat.le_refl _)] at hI
      have HI2 := Aside0.mk hI
      have HF2 := Aside0.mk (HF.out.trans hF)
      clear hI hF
      go_wp2_with fail
      go_roundg kq
      case measure => omega
      case rel => exact ⟨rfl, ⟨by omega⟩, HI2, HF2⟩
theorem Ri_move {w w1 : World} {base e : Nat} {ok : Nat → Prop} {v : Value} {xs : List Int} (h : (Kd.int .i64).R e w base ok v xs) (hm : ∀ k, v.ownBlock = some k → w1.heap[k]? = w.heap[k]?) : (Kd.int .i64).R e w1 base ok v xs := by
  have h1 : (Kd.int .i64).R e w base (fun k => v.ownBlock = some k ∧ ok k) v xs := Kd.R_flat (d := Kd.int .i64) (fun h => h) h (fun k hk ho => ⟨hk, ho⟩)
  exact Kd.R_mono (Kd.R_move h1 (fun k hk => hm k hk.1)) (fun k hk => hk.2)
def lsF (N : Nat) (f : Nat → Int) : List Int := (List.range N).map f
theorem lsF_length (N : Nat) (f : Nat → Int) : (lsF N f).length = N := by simp [lsF]
theorem lsF_congr {N : Nat} {f f' : Nat → Int} (h : ∀ y, y < N → f y = f' y) : lsF N f = lsF N f' := by
  unfold lsF
  exact List.map_congr_left (fun y hy => h y (List.mem_range.1 hy))
theorem lsF_set {N : Nat} (f : Nat → Int) (i : Nat) (x : Int) : (lsF N f).set i x = lsF N (fun y => if y = i then x else f y) := by
  refine List.ext_getElem (by simp [lsF]) (fun y h1 h2 => ?_)
  rw [List.getElem_set]
  simp only [lsF, List.getElem_map, List.getElem_range]
  by_cases e : y = i
  · subst e; simp
  · rw [if_neg (Ne.symm e), if_neg e]
theorem lsF_rd {N : Nat} (f : Nat → Int) {i : Nat} (h : i < N) : rd (lsF N f) (i : Int) = f i := by
  unfold rd lsF
  simp [List.getD_eq_getElem?_getD, h]
theorem lsF_zero (N : Nat) : lsF N (fun _ => 0) = List.replicate N 0 := by
  unfold lsF
  rw [List.map_const', List.length_range]
end Go.Proofs.Ytkeadpichlgagaa.Wv
