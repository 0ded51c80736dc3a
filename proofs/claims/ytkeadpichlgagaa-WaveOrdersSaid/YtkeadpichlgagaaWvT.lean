/- wave: what the reference's Level answers, plain. -/
import Derived.Test.YtkeadpichlgagaaWvR
import Derived.Test.YtkeadpichlgagaaPWaveOrdersx10
namespace Go.Proofs.Ytkeadpichlgagaa.Wv
open Go.RowKit Go.Proofs.YtkeadpichlgagaaW.PrintWords Go.Proofs.YtkeadpichlgagaaW.PrintLast Go.Proofs.YtkeadpichlgagaaW.PrintMore
open Go.Proofs.Ytkeadpichlgagaa.PWaveOrders
set_option linter.unusedVariables false
set_option linter.unusedSimpArgs false
theorem level_in (G : Gr) (x : Int) (h0 : 0 ≤ x) (h1 : x < G.length) (hl : (row G x).length ≤ 1000000000) (hd : ∀ e ∈ row G x, Ev (fun k => echelonref14_Level.f k G e) (lev G e) ∧ 0 ≤ lev G e ∧ lev G e ≤ 1000000000) : ∀ (d i : Nat) (b : Int), i + d = (row G x).length →
    Ev (fun k => echelonref14_Level.l0 k G x b (i : Int)) (((row G x).drop i).foldl (fun b x => if lev G x + 1 > b then lev G x + 1 else b) b)
  | 0, i, b, h => by
    rw [List.drop_of_length_le (by omega)]
    exact Ev.step (f := fun _ => some b) (fun k => by simp only [echelonref14_Level.l0]; rw [if_pos h0, if_pos h1, show rd_L1 G x = row G x from rfl, if_neg (by omega)]) (Ev.now _)
  | d + 1, i, b, h => by
    have hlt : i < (row G x).length := by omega
    rw [List.drop_eq_getElem_cons hlt, List.foldl_cons]
    obtain ⟨he, h2, h3⟩ := hd _ (List.getElem_mem hlt)
    refine Ev.step (f := fun k => (echelonref14_Level.f k G (row G x)[i]).bind fun t278 => (if (wrap64 (t278 + 1)) > b then (echelonref14_Level.l0 k G x (wrap64 (t278 + 1)) ((i + 1 : Nat) : Int)) else (echelonref14_Level.l0 k G x b ((i + 1 : Nat) : Int)))) (fun k => by
        simp only [echelonref14_Level.l0]
        rw [if_pos h0, if_pos h1, show rd_L1 G x = row G x from rfl, if_pos (by omega), if_pos (by omega), rd_at _ hlt, inc i (by omega)]) (Ev.bind he ?_)
    have ew : wrap64 (lev G (row G x)[i] + 1) = lev G (row G x)[i] + 1 := by unfold wrap64; omega
    rw [ew]
    by_cases hc : lev G (row G x)[i] + 1 > b
    · simp only [if_pos hc]
      exact level_in G x h0 h1 hl hd d (i + 1) _ (by omega)
    · simp only [if_neg hc]
      exact level_in G x h0 h1 hl hd d (i + 1) _ (by omega)
theorem level_ev (G : Gr) (hN : G.length ≤ 1000000000) (hrows : ∀ y : Nat, y < G.length → (row G (y : Int)).length ≤ 1000000000) : ∀ (i : Nat) (hi : i < (ordA G).length), Ev (fun k => echelonref14_Level.f k G (ordA G)[i]) (lev G (ordA G)[i]) := by
  intro i
  induction i using Nat.strongRecOn with
  | _ i ih =>
    intro hi
    obtain ⟨x0, x1⟩ := (ordA_st G).inn _ (List.getElem_mem hi)
    have hl := hrows (ordA G)[i].toNat (by omega)
    rw [Int.toNat_of_nonneg x0] at hl
    have := level_in G (ordA G)[i] x0 x1 hl (fun e he => by
      obtain ⟨j, hj, hji, rfl⟩ := elder_at hi he
      have h2 := lev_le j hj
      have h3 := ordA_len G
      exact ⟨ih j hji hj, lev_nonneg hj, by omega⟩) (row G (ordA G)[i]).length 0 0 (by omega)
    rw [List.drop_zero, ← lev_eq hi] at this
    exact Ev.step (fun k => by simp only [echelonref14_Level.f]; rfl) this
end Go.Proofs.Ytkeadpichlgagaa.Wv
