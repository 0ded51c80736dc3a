/- Kept of the text MoO: what is reached (wip/tools/prune.py). -/
import Derived.Test.YtnkpleggmiamdaaVMoN
namespace Go.Proofs.Ytnkpleggmiamdaa.Mo
open Go.RowKit Go.Maps Go.Proofs.YtnkpleggmiamdaaW.PrintWords Go.Proofs.YtnkpleggmiamdaaW.PrintLast Go.Proofs.YtnkpleggmiamdaaW.PrintMore
open Go.Proofs.Ytnkpleggmiamdaa.PSessionParses Go.Proofs.Ytnkpleggmiamdaa.Mp
set_option linter.unusedVariables false
set_option linter.unusedSimpArgs false
theorem at_P {w : World} {A : Option Addr} {n : Nat} {gs : List Nat} (h : kP.C w A n gs) (i : Nat) (h1 : i < n) : ∃ ad, A = some ad ∧ w.cell? (ad.add i) = some (.pointer (some ⟨gs.getD i 0, 0, none⟩)) := by
  obtain ⟨ad, c, e, _, hK, hc⟩ := Kd.C_get h 0 (i : Int) (by omega) (by omega)
  have hk : c = [ptrV (gs.getD (i : Int).toNat 0)] := hK
  subst hk
  have := hc 0 _ rfl
  refine ⟨ad, e, ?_⟩
  have hz : kP.sz = 1 := rfl
  have hi : ((i : Int).toNat * kP.sz + 0) = i := by rw [hz]; simp
  rw [hi] at this
  simpa [ptrV] using this
theorem cf89 (args : Array Value) (w : World) : (callFunc 103 args).run Try.prog w = .ok (.enter 103 args) w := by kernel_rfl
theorem cellB {w w1 : World} {p : Addr} {v : Value} (hb : Below w.heap.size w w1) (h : w.cell? p = some v) : w1.cell? p = some v := by
  rw [← h]
  exact World.cell?_of_block (w := w) (hb.block _ (cell_lt h))
set_option maxRecDepth 100000 in
theorem clo_calls (k0 : Sh) (ih : HasC k0) (c : Int) (ks : List Sh) (g bx : Nat) (ok : Nat → Prop) (w : World) (hK : KindIs w ok (.mk c (k0 :: ks)) g) (hx : w.cell? ⟨bx, 0, none⟩ = some (.pointer (some ⟨g, 0, none⟩))) (v : S105) (A1 : Option Addr) (c1 : Nat) (A2 : Option Addr) (c2 : Nat) (hV : ValIs w v A1 c1 A2 c2) :
    Calls Try.prog 103 #[.agg #[.int .u64 v.f0, .slice A1 v.f1.length c1, .slice A2 v.f2.length c2], .pointer (some ⟨bx, 0, none⟩)] w fun e w' => e = .returned (.bool (!hasS k0 v)) ∧ Below w.heap.size w w' := by
  have HBX : Aside0 (Below w.heap.size w (w.alloc (.cells #[.int .u64 v.f0, .slice A1 v.f1.length c1, .slice A2 v.f2.length c2] 105))) := ⟨(Below.refl _ _).alloc (Nat.le_refl _) _⟩
  have hK' := hK.under HBX.out
  have hV' := hV.under HBX.out
  have hx' := cellB HBX.out hx
  have hN := blk_new w (.cells #[.int .u64 v.f0, .slice A1 v.f1.length c1, .slice A2 v.f2.length c2] 105)
  clear hK hV hx
  obtain ⟨bb, hbb⟩ : ∃ bb, hasS k0 v = bb := ⟨_, rfl⟩
  have HBB := Aside0.mk hbb
  clear hbb
  go_enter Try.func103, Try.ntmps103
  go_wp2_with fail
  generalize w.alloc (.cells #[.int .u64 v.f0, .slice A1 v.f1.length c1, .slice A2 v.f2.length c2] 105) = W at HBX hK' hV' hx' hN ⊢
  generalize w.heap.size = bn at hN ⊢
  have n0 : W.cell? ⟨bn, 0, none⟩ = some (.int .u64 v.f0) := (blk_cell hN 0).trans rfl
  have n1 : W.cell? ⟨bn, 1, none⟩ = some (.slice A1 v.f1.length c1) := (blk_cell hN 1).trans rfl
  have n2 : W.cell? ⟨bn, 2, none⟩ = some (.slice A2 v.f2.length c2) := (blk_cell hN 2).trans rfl
  have HV := Aside0.mk hV'
  clear hV' hN
  cases hK' with
  | mk hg hb hC hA hcap hw hk =>
    rename_i A cap gs
    have k1 : W.cell? ⟨g, 1, none⟩ = some (.slice A (k0 :: ks).length cap) := (blk_cell hb 1).trans rfl
    obtain ⟨ad, rfl, y0⟩ := at_P hC 0 (by simp)
    have y0' : W.cell? ad = some (.pointer (some ⟨gs.getD 0 0, 0, none⟩)) := y0
    have HKK : Aside0 (KindIs W ok k0 (gs.getD 0 0)) := ⟨hk 0 (by simp)⟩
    generalize gs.getD 0 0 = g0 at y0' HKK
    have hpos : (0 : Int) < ((k0 :: ks).length : Int) := by simp only [List.length_cons]; omega
    generalize (k0 :: ks).length = nk at k1 hpos
    have hpos2 : 0 < nk := by omega
    clear hC hk y0 hb hA hw hcap hg
    have HC := Aside0.mk (ih W.drew ok g0 (HKK.out.under (Below.refl _ _).drew) v A1 c1 A2 c2 (HV.out.under (Below.refl _ _).drew))
    rw [HBB.out] at HC
    go_still_tail 7, (by kernel_rfl)
    go_wp2_with fail
    refine HC.out.mono ?_
    rintro e w2 ⟨rfl, hB⟩
    have HB2 : Aside0 (Below W.heap.size W w2) := ⟨((Below.refl _ _).drew).trans hB⟩
    clear hB
    go_wp2_with fail
    go_ret
    exact ⟨by rw [HBB.out]; rfl, HBX.out.trans (HB2.out.mono HBX.out.size)⟩
end Go.Proofs.Ytnkpleggmiamdaa.Mo
