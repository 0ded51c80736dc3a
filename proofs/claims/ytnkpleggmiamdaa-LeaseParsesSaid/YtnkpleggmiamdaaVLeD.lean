/- Kept of the text LeD: what is reached (wip/tools/prune.py). -/
import Derived.Test.YtnkpleggmiamdaaVLeC
import Derived.Test.YtnkpleggmiamdaaVKeA
namespace Go.Proofs.Ytnkpleggmiamdaa.Le
open Go.RowKit Go.Maps Go.Proofs.YtnkpleggmiamdaaW.PrintWords Go.Proofs.YtnkpleggmiamdaaW.PrintLast Go.Proofs.YtnkpleggmiamdaaW.PrintMore
open Go.Proofs.Ytnkpleggmiamdaa.PLeaseFull Go.Proofs.Ytnkpleggmiamdaa.Mp
open Go.Proofs.Ytnkpleggmiamdaa.Ke (keys_calls sorted_calls asc)
set_option linter.unusedVariables false
set_option linter.unusedSimpArgs false
theorem info85 : (Try.prog.info? 85).map (fun i => (i.zero, i.size, i.bytes)) = some (some (.agg #[.int .i64 0, .int .i64 0]), 2, 16) := by kernel_rfl
structure TabOk (M : Tab) : Prop where
  wf : ∀ x ∈ M, (Lit.int .i64 x.1).wf = true
  nd : (M.map (·.1)).Nodup
  len : M.length ≤ 100000
def ls (M : Tab) (k : Int) : S85 := ⟨k, get M k⟩
def allF (M : Tab) : List S85 := (asc (M.map (·.1))).map (ls M)
theorem amap_keys (M : Tab) : (amap (Value.int .i64) M).map (·.1) = M.map (·.1) := by simp [amap]
theorem asc_len (l : List Int) : (asc l).length = l.length := by unfold asc; rw [List.length_mergeSort]
set_option maxHeartbeats 1000000 in
set_option maxRecDepth 100000 in
theorem all_calls (p bm : Nat) (bud : Int) (M : Tab) (w : World) (h : LedIs w p bm bud M) (hok : TabOk M) :
    Calls Try.prog 53 #[.pointer (some ⟨p, 0, none⟩)] w fun e w' => ∃ v, e = .returned v ∧ Kd.R k85 85 w' w.heap.size (fun k => w.heap.size ≤ k) v (allF M) ∧ Below w.heap.size w w' := by
  obtain ⟨c0, c1⟩ := h.cells
  have H := Aside0.mk h
  have HOK := Aside0.mk hok
  have HN : Aside0 ((asc (M.map (·.1))).length = M.length) := ⟨by rw [asc_len, List.length_map]⟩
  have hlen := hok.len
  clear h hok
  go_enter Try.func53, Try.ntmps53
  go_wp2_with fail
  refine (keys_calls (some bm) w).mono ?_
  rintro e w1 ⟨rfl, rfl⟩
  go_wp2_with fail
  have HB1 : Below w.heap.size w (w.alloc (.cells #[.map (some bm)] 128)) := (Below.refl _ _).alloc (Nat.le_refl _) _
  refine (sorted_calls w.heap.size bm (amap (Value.int .i64) M) (w.alloc (.cells #[.map (some bm)] 128)) (H.out.map.alloc _) ((blk_cell (blk_new w _) 0).trans rfl) ?_ ?_ ?_).mono ?_
  · intro x hx
    obtain ⟨y, hy, rfl⟩ := List.mem_map.1 hx
    exact HOK.out.wf y hy
  · rw [amap_keys]; exact HOK.out.nd
  · rw [amap_len]; exact HOK.out.len
  rintro e ws ⟨v, rfl, hR, hB⟩
  rw [amap_keys] at hR
  obtain ⟨A, c, rfl⟩ := Kd.R_slice hR
  have HC := Aside0.mk (Kd.R_reads' hR).2.2
  rw [HN.out] at HC ⊢
  have HBS := Aside0.mk (HB1.trans (hB.mono HB1.size))
  have HO : Aside0 (Kd.R k85 85 ws ws.heap.size (fun k => ws.heap.size ≤ k) (.slice none 0 0) []) := ⟨Kd.R_nil _ _ _ _ _⟩
  clear hR hB HB1 c0 c1
  go_wp2_with fail
  go_loopg [3, 5, 13] M.length (fun kq v3 v5 v13 wr => ∃ (i : Nat), v13 = .int .i64 i ∧ i + kq = M.length ∧ Aside0 (Kd.R k85 85 wr ws.heap.size (fun k => ws.heap.size ≤ k) v3 (((asc (M.map (·.1))).take i).map (ls M))) ∧ Aside0 (Below ws.heap.size ws wr))
  case atStart => exact ⟨0, rfl, by omega, HO, ⟨Below.refl _ _⟩⟩
  case round =>
    clear HO
    obtain ⟨i, rfl, hi, HO, HB⟩ := hrel
    obtain ⟨A3, c3, rfl⟩ := Kd.R_slice HO.out
    by_cases hlt : i < M.length
    · have hlt' : (i : Int) < (M.length : Int) := by omega
      obtain ⟨ad, rfl, x0⟩ := Kd.at_int (Kd.C_below HC.out HB.out) i (by omega) hlt'
      simp only [Int.toNat_natCast] at x0
      have hlt2 : i < (asc (M.map (·.1))).length := by rw [HN.out]; exact hlt
      have HT : Aside0 ((((asc (M.map (·.1))).take (i + 1)).map (ls M)) = ((asc (M.map (·.1))).take i).map (ls M) ++ [ls M (rd (asc (M.map (·.1))) i)]) := ⟨by
        rw [List.take_succ_eq_append_getElem hlt2, List.map_append]
        have : rd (asc (M.map (·.1))) (i : Int) = (asc (M.map (·.1)))[i] := by simp [rd, hlt2]
        rw [this]
        rfl⟩
      have HYL : Aside0 ((((asc (M.map (·.1))).take i).map (ls M)).length ≤ 100000) := ⟨by rw [List.length_map, List.length_take]; omega⟩
      generalize (((asc (M.map (·.1))).take i).map (ls M)) = ys at HO HT HYL ⊢
      generalize rd (asc (M.map (·.1))) i = k at x0 HT
      have HL := Aside0.mk ((H.out.below HBS.out).below HB.out)
      obtain ⟨c0, c1⟩ := HL.out.cells
      have hlk := run_get HL.out.map k
      go_wp2_with ((with_reducible refine gate_builtin (b := .append) (xs := #[.tmp 17, .tmp 26]) rfl ?_); at_builtin; refine Kd.R_append k85 (w0 := ws) ws.heap.size rfl (.tmp 17) (.tmp 26) 86 85 (.agg #[.int .i64 0, .int .i64 0]) 16 rfl Try.underlying86 info85 rfl (by decide) (by decide) (.slice A3 ys.length c3) ys (ls M k) [.int .i64 k, .int .i64 (get M k)] (fun k => ws.heap.size ≤ k) (fun _ => False) rfl rfl ?aP (fun _ hk => hk.elim) ?aF ?aO ?aB ?aS ?aL ?_; (case aP => exact k85_mkM _ _ _ (ls M k)); (case aF => exact fun k hk => Nat.le_trans HB.out.size hk); (case aO => exact HO.out); (case aB => exact HB.out); (case aS => exact HB.out.size); (case aL => have := HYL.out; omega); intro v5 w5 ho hb5 hg hat; have HO5 := Aside0.mk ho; have HB5 := Aside0.mk hb5; clear ho hb5 hg hat)
      rw [← HT.out] at HO5
      go_wp2_with fail
      go_roundg (gk - 1)
      case measure => omega
      case rel => exact ⟨i + 1, by go_num, by omega, HO5, HB5⟩
    · have HE : Aside0 (((asc (M.map (·.1))).take i).map (ls M) = allF M) := ⟨by rw [List.take_of_length_le (by rw [HN.out]; omega)]; rfl⟩
      rw [HE.out] at HO ⊢
      go_wp2_with fail
      go_ret
      refine ⟨_, rfl, Kd.R_mono (Kd.R_lower HO.out HBS.out.size) (fun k hk => Nat.le_trans HBS.out.size hk), HBS.out.trans (HB.out.mono HBS.out.size)⟩
end Go.Proofs.Ytnkpleggmiamdaa.Le
