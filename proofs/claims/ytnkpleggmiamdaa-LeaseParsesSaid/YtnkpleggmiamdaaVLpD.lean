/- Kept of the text LpD: what is reached (wip/tools/prune.py). -/
import Derived.Test.YtnkpleggmiamdaaVLpB
import Derived.Test.YtnkpleggmiamdaaVG8
namespace Go.Proofs.Ytnkpleggmiamdaa.Lp
open Go.RowKit Go.Maps Go.Proofs.YtnkpleggmiamdaaW.PrintWords Go.Proofs.YtnkpleggmiamdaaW.PrintLast Go.Proofs.YtnkpleggmiamdaaW.PrintMore
open Go.Proofs.Ytnkpleggmiamdaa.PSessionParses (S105 z105 k105 rd_T105 at_T105 k105_mkM k105_mk info105)
open Go.Proofs.Ytnkpleggmiamdaa.Mo Go.Proofs.Ytnkpleggmiamdaa.Mp Go.Proofs.Ytnkpleggmiamdaa.Ke
open Go.Proofs.Ytnkpleggmiamdaa.Le (LedIs rightB S85 k85 at_T85 rd_T85)
set_option linter.unusedVariables false
set_option linter.unusedSimpArgs false
theorem lit2 (W : World) (a b : Int) : k105.R 105 (W.alloc (.cells #[.int .u64 a, .slice none 0 0, .slice none 0 0, .int .u64 b, .slice none 0 0, .slice none 0 0] 105)) W.heap.size (fun k => k = W.heap.size) (.slice (some ⟨W.heap.size, 0, none⟩) 2 2) [⟨a, [], []⟩, ⟨b, [], []⟩] := by
  have hm : ∀ n : Int, k105.M W W.heap.size (fun k => k = W.heap.size ∧ some k ≠ (Value.slice (some ⟨W.heap.size, 0, none⟩) 2 2).ownBlock) ⟨n, [], []⟩ [.int .u64 n, .slice none 0 0, .slice none 0 0] :=
    fun n => k105_mkM _ _ _ ⟨n, [], []⟩ (Kd.R_nil _ _ _ _ _) (Kd.R_nil _ _ _ _ _)
  have hr : Reps (k105.M W W.heap.size (fun k => k = W.heap.size ∧ some k ≠ (Value.slice (some ⟨W.heap.size, 0, none⟩) 2 2).ownBlock)) 3 [(⟨a, [], []⟩ : S105), ⟨b, [], []⟩] [.int .u64 a, .slice none 0 0, .slice none 0 0, .int .u64 b, .slice none 0 0, .slice none 0 0] := by
    have := Reps.snoc (Reps.snoc (Reps.none (k105.M W W.heap.size (fun k => k = W.heap.size ∧ some k ≠ (Value.slice (some ⟨W.heap.size, 0, none⟩) 2 2).ownBlock)) 3) (hm a) rfl) (hm b) rfl
    simpa using this
  refine ⟨fun k hk => ?_, ?_⟩
  · simp [Value.ownBlock] at hk
    omega
  · have h := OwnRow.lit (e := 105) W W.heap.size hr (Nat.le_refl _) (by simp)
    exact h.imp_ (fun p c hp => Kd.M_below hp ((Below.refl _ _).alloc (Nat.le_refl _) _))
def rv (p : Int × Int) : S105 := rowV [p.1, p.2]
theorem get_rise : ∀ {l : Int} {rows : List (Int × Int)}, goodF l rows = true → ∀ p ∈ rows, Le.get rows p.1 = p.2
  | _, [], _, p, hp => by cases hp
  | l, q :: r, h, p, hp => by
    have hk := (goodF_keys h).2
    simp only [goodF, Bool.and_eq_true] at h
    rw [List.map_cons, List.pairwise_cons] at hk
    unfold Le.get
    rcases List.mem_cons.1 hp with rfl | hp
    · simp [alook]
    · have hne : q.1 ≠ p.1 := by
        have := hk.1 p.1 (List.mem_map_of_mem hp)
        omega
      have ih := get_rise h.2 p hp
      unfold Le.get at ih
      simp only [alook]
      rw [if_neg hne]
      exact ih
theorem all_rise {l : Int} {rows : List (Int × Int)} (h : goodF l rows = true) : Le.allF rows = rows.map (fun p => (⟨p.1, p.2⟩ : S85)) := by
  have hk := (goodF_keys h).2
  have e : asc (rows.map (·.1)) = rows.map (·.1) := by
    unfold asc
    exact List.mergeSort_of_pairwise (hk.imp (fun h => by simp; omega))
  unfold Le.allF
  rw [e, List.map_map]
  apply List.map_congr_left
  intro p hp
  show (⟨p.1, Le.get rows p.1⟩ : S85) = _
  rw [get_rise h p hp]
theorem tab_ok {rows : List (Int × Int)} (h : goodF (-1) rows = true) (hl : rows.length ≤ 100000) : Le.TabOk rows := by
  have hk := (goodF_keys h).2
  exact ⟨fun x hx => Le.rightB_wf (goodF_right h x hx), hk.imp (fun h => by omega), hl⟩
theorem R_at_ge {α : Type} {d : Kd α} {e n c : Nat} {w : World} {B : Nat} {ok : Nat → Prop} {A : Option Addr} {xs : List α} (h : d.R e w B ok (.slice A n c) xs) : ∀ k, AtB A k → B ≤ k ∧ k < w.heap.size := fun k hk => by
  obtain ⟨_, inner, hown, _⟩ := h
  rcases hown.2 with ⟨e, _⟩ | ⟨g, cap, cur, e, hg, hcur, _⟩
  · cases e
    exact absurd hk AtB.none
  · cases e
    simp only [AtB, Option.map_some, Option.some.injEq] at hk
    subst hk
    exact ⟨hg, blk_lt hcur⟩
theorem rowB_len : ∀ l : List (Int × Int), ((l.map rowB).flatten).length ≤ 18 * l.length
  | [] => by simp
  | p :: l => by
    have h1 := numB_len p.1
    have h2 := numB_len p.2
    have := rowB_len l
    simp only [List.map_cons, List.flatten_cons, List.length_cons, List.length_append, rowB]
    omega
theorem form_len (bud : Int) (rows : List (Int × Int)) : (formL bud rows).length ≤ 18 + 18 * rows.length := by
  have h1 := numB_len bud
  have h2 := numB_len (rows.length : Int)
  have h3 := rowB_len rows
  unfold formL
  simp only [List.length_append]
  omega
set_option maxHeartbeats 8000000 in
set_option maxRecDepth 100000 in
theorem bytes_calls (p bm : Nat) (bud : Int) (rows : List (Int × Int)) (w : World) (h : LedIs w p bm bud rows) (hg : goodF (-1) rows = true) (hb : 1 ≤ bud ∧ bud ≤ 65535) (hl : (rows.length : Int) ≤ bud) :
    Calls Try.prog 56 #[.pointer (some ⟨p, 0, none⟩)] w fun e w' => ∃ A c, e = .returned (.slice A (formL bud rows).length c) ∧ (formL bud rows).length ≤ c ∧ (Kd.int .u8).C w' A (formL bud rows).length (formL bud rows) ∧ Below w.heap.size w w' := by
  have HOK := Aside0.mk (tab_ok hg (by omega))
  have HPV := Aside0.mk (put_val (bud := bud) (rows := rows) (by omega) (goodF_right hg))
  have HAR := Aside0.mk (all_rise hg)
  have H := Aside0.mk h
  have hn : rows.length ≤ 65535 := by omega
  clear h
  go_enter Try.func56, Try.ntmps56
  go_wp2_with fail
  obtain ⟨bv, hbv⟩ : ∃ bv, w.heap.size = bv := ⟨_, rfl⟩
  obtain ⟨w1, hw1⟩ : ∃ w1, w.alloc (.cells #[.int .u64 0, .slice none 0 0, .slice none 0 0] 105) = w1 := ⟨_, rfl⟩
  have HB1 : Aside0 (Below w.heap.size w w1) := ⟨by rw [← hw1]; exact (Below.refl _ _).alloc (Nat.le_refl _) _⟩
  have KV : Aside0 (w1.heap[bv]? = some (.cells #[.int .u64 0, .slice none 0 0, .slice none 0 0] 105 (0, 0))) := ⟨by rw [← hbv, ← hw1]; exact blk_new _ _⟩
  have H1 := Aside0.mk (H.out.below HB1.out)
  rw [hbv, hw1]
  refine (Le.all_calls p bm bud rows w1 H1.out HOK.out).mono ?_
  rintro e w2 ⟨v, rfl, hR, hB⟩
  rw [HAR.out] at hR
  obtain ⟨A, c, rfl⟩ := Kd.R_slice hR
  have HC := Aside0.mk (Kd.R_reads' hR).2.2
  have HNA : Aside0 (∀ k, AtB A k → k ≠ bv) := ⟨fun k hk => by have := (R_at_ge hR k hk).1; have := blk_lt KV.out; omega⟩
  have e0 : (rows.map (fun p => (⟨p.1, p.2⟩ : S85))).length = rows.length := List.length_map _
  rw [e0] at HC ⊢
  have HB2 := Aside0.mk (HB1.out.trans (hB.mono HB1.out.size))
  have KV2 := Aside0.mk (blk_below KV.out hB)
  have H2 := Aside0.mk (H1.out.below hB)
  obtain ⟨B, hBd⟩ : ∃ B, w2.heap.size = B := ⟨_, rfl⟩
  have HBV : Aside0 (bv < B ∧ w.heap.size ≤ bv) := ⟨by rw [← hBd]; exact blk_lt KV2.out, by omega⟩
  have HPB : Aside0 (p < B ∧ bm < B) := ⟨by rw [← hBd]; exact ⟨blk_lt H2.out.blk, H2.out.map.lt⟩⟩
  have HW2 : Aside0 (B ≤ w2.heap.size) := ⟨by omega⟩
  have HWB := Aside0.mk hBd
  have HPN : Aside0 (p ≠ bv ∧ bm ≠ bv) := ⟨by rw [← hbv]; exact ⟨Nat.ne_of_lt (blk_lt H.out.blk), Nat.ne_of_lt H.out.map.lt⟩⟩
  clear hR hB hw1 e0 KV H1 HB1 HOK HAR hbv
  go_wp2_with fail
  go_loopg [5, 11] rows.length (fun kq v5 v11 wr => ∃ (i : Nat) (u : Value), v11 = .int .i64 i ∧ i + kq = rows.length ∧ Aside0 (wr.heap[bv]? = some (.cells #[.int .u64 0, .slice none 0 0, u] 105 (0, 0))) ∧ Aside0 (Kd.R k105 105 wr B (fun k => B ≤ k) u ((rows.take i).map rv)) ∧ Aside0 (Below w.heap.size w wr) ∧ Aside0 (B ≤ wr.heap.size) ∧ Aside0 (Fr1 w2 wr bv))
  case atStart => exact ⟨0, .slice none 0 0, rfl, by omega, KV2, ⟨Kd.R_nil _ _ _ _ _⟩, HB2, HW2, ⟨Fr1.refl _ _⟩⟩
  case round =>
    clear KV2 HB2 HW2
    obtain ⟨i, u, rfl, hi, KV, HR, HB, HW, HF⟩ := hrel
    obtain ⟨Au, cu, rfl⟩ := Kd.R_slice HR.out
    have HLI : Aside0 (((rows.take i).map rv).length = i) := ⟨by simp; omega⟩
    rw [HLI.out] at KV HR
    by_cases hlt : i < rows.length
    · have hlt' : (i : Int) < (rows.length : Int) := by omega
      obtain ⟨ad, rfl, x0, x1⟩ := at_T85 (Le.C85_fr1 HC.out HF.out HNA.out) i (by omega) hlt'
      have e1 : rd_T85 (rows.map (fun p => (⟨p.1, p.2⟩ : S85))) (i : Int) = ⟨rows[i].1, rows[i].2⟩ := by simp [rd_T85, hlt]
      rw [e1] at x0 x1
      simp only [Int.toNat_natCast] at x0 x1
      have HTK : Aside0 ((rows.take (i + 1)).map rv = (rows.take i).map rv ++ [rv rows[i]]) := ⟨by rw [List.take_succ_eq_append_getElem hlt, List.map_append]; rfl⟩
      have HL2 : Aside0 (((rows.take (i + 1)).map rv).length = i + 1) := ⟨by simp; omega⟩
      obtain ⟨⟨c0, o0⟩, hpp⟩ : ∃ q, rows[i] = q := ⟨_, rfl⟩
      rw [hpp] at x0 x1 HTK
      simp only at x0 x1
      clear e1 hpp
      obtain ⟨b5, hb5⟩ : ∃ b5, wr.heap.size = b5 := ⟨_, rfl⟩
      obtain ⟨w3, hw3⟩ : ∃ w3, wr.alloc (.cells #[.int .i64 c0, .int .i64 o0] 85) = w3 := ⟨_, rfl⟩
      obtain ⟨g, hg3⟩ : ∃ g, w3.heap.size = g := ⟨_, rfl⟩
      obtain ⟨w4, hw4⟩ : ∃ w4, w3.alloc (.cells #[.int .u64 (IntKind.u64.wrap c0), .slice none 0 0, .slice none 0 0, .int .u64 (IntKind.u64.wrap o0), .slice none 0 0, .slice none 0 0] 105) = w4 := ⟨_, rfl⟩
      have HB3 : Aside0 (Below wr.heap.size wr w3) := ⟨by rw [← hw3]; exact (Below.refl _ _).alloc (Nat.le_refl _) _⟩
      have HB4 : Aside0 (Below w3.heap.size w3 w4) := ⟨by rw [← hw4]; exact (Below.refl _ _).alloc (Nat.le_refl _) _⟩
      have HBR4 : Aside0 (Below wr.heap.size wr w4) := ⟨HB3.out.trans (HB4.out.mono HB3.out.size)⟩
      have K5 : Aside0 (w3.heap[b5]? = some (.cells #[.int .i64 c0, .int .i64 o0] 85 (0, 0))) := ⟨by rw [← hb5, ← hw3]; exact blk_new _ _⟩
      have k50 : w3.cell? ⟨b5, 0, none⟩ = some (.int .i64 c0) := (blk_cell K5.out 0).trans rfl
      have k51 : w3.cell? ⟨b5, 1, none⟩ = some (.int .i64 o0) := (blk_cell K5.out 1).trans rfl
      have kv3 : w3.cell? ⟨bv, 2, none⟩ = some (.slice Au i cu) := (blk_cell (blk_below KV.out HB3.out) 2).trans rfl
      have KV4 := Aside0.mk (blk_below KV.out HBR4.out)
      have HR4 := Aside0.mk (Kd.R_below HR.out HBR4.out)
      have HLT2 : Aside0 (k105.R 105 w4 g (fun k => k = g) (.slice (some ⟨g, 0, none⟩) 2 2) [numV c0, numV o0]) := ⟨by have := lit2 w3 (IntKind.u64.wrap c0) (IntKind.u64.wrap o0); rw [hw4, hg3] at this; exact this⟩
      have HGB : Aside0 (B ≤ g ∧ ∀ k, (Value.slice Au i cu).ownBlock = some k → k < g) := ⟨by have := HW.out; have := HB3.out.size; omega, fun k hk => by have := Kd.R_lt HR.out k hk; have := HB3.out.size; omega⟩
      have HB44 : Aside0 (B ≤ w4.heap.size) := ⟨by have := HW.out; have := HBR4.out.size; omega⟩
      have kv4 := (blk_cell KV4.out 2).trans (show _ = some (Value.slice Au i cu) from rfl)
      have fv4 := blk_frozen KV4.out 2
      have HBW4 := Aside0.mk (HB.out.trans (HBR4.out.mono HB.out.size))
      have HF4 := Aside0.mk (HF.out.below HBR4.out)
      go_wp2_with ((with_reducible refine gate_builtin (b := .append) (xs := #[.tmp 16, .tmp 27]) rfl ?_); at_builtin; refine Kd.R_append k105 (w0 := w4) (W := w4) B rfl (.tmp 16) (.tmp 27) 103 105 (.agg #[.int .u64 0, .slice none 0 0, .slice none 0 0]) 56 rfl Try.underlying103 info105 rfl (by decide) (by decide) (.slice Au i cu) ((rows.take i).map rv) (rv (c0, o0)) [.int .u64 0, .slice none 0 0, .slice (some ⟨g, 0, none⟩) 2 2] (fun k => B ≤ k) (fun k => k = g) rfl rfl ?aP ?aK ?aF ?aO ?aB ?aS ?aL ?_; (case aP => exact k105_mkM _ _ _ (rv (c0, o0)) (Kd.R_nil _ _ _ _ _) (Kd.R_lower HLT2.out HGB.out.1)); (case aK => exact fun k hk => ⟨by rw [hk]; exact HGB.out.1, fun e => by have := HGB.out.2 k e.symm; omega⟩); (case aF => exact fun k hk => Nat.le_trans HB44.out hk); (case aO => exact HR4.out); (case aB => exact Below.refl _ _); (case aS => exact HB44.out); (case aL => rw [HLI.out]; omega); intro v9 w9 hr9 hb9 hg9 hat9; rw [← HTK.out] at hr9; obtain ⟨A9, c9, rfl⟩ := Kd.R_slice hr9; rw [HL2.out] at hr9 ⊢; have HR9 := Aside0.mk hr9; have HG9 := Aside0.mk hg9; have KV9 := Aside0.mk (blk_grown KV4.out hg9 (fun e => by have h := Kd.R_base HR4.out _ e.symm; have := HBV.out.1; omega)); have kv9 := (blk_cell KV9.out 2).trans (show _ = some (Value.slice Au i cu) from rfl); have fv9 := blk_frozen KV9.out 2; clear hr9 hb9 hg9 hat9)
      have KVn : Aside0 ((w9.setCell ⟨bv, 2, none⟩ (.slice A9 (i + 1) c9)).heap[bv]? = some (.cells #[.int .u64 0, .slice none 0 0, .slice A9 (i + 1) c9] 105 (0, 0))) := ⟨blk_put (cs := #[.int .u64 0, .slice none 0 0, .slice Au i cu]) KV9.out 2 _ rfl⟩
      have HRn : Aside0 (Kd.R k105 105 (w9.setCell ⟨bv, 2, none⟩ (.slice A9 (i + 1) c9)) B (fun k => B ≤ k) (.slice A9 (i + 1) c9) ((rows.take (i + 1)).map rv)) := ⟨Kd.R_step HR9.out (fun k hk _ => Below.heap_setCell w9 ⟨bv, 2, none⟩ _ k (by have h1 : B ≤ k := hk; have := HBV.out.1; show k ≠ bv; omega))⟩
      have hb0 : ∀ k, (Value.slice Au i cu).ownBlock = some k → B ≤ k := fun k hk => Kd.R_base HR4.out k hk
      have HBn : Aside0 (Below w.heap.size w (w9.setCell ⟨bv, 2, none⟩ (.slice A9 (i + 1) c9))) := ⟨(pw_below_grown HBW4.out _ HBW4.out.size HG9.out (fun k hk => by have := hb0 k hk; have := HBV.out; omega)).setCell (p := ⟨bv, 2, none⟩) HBV.out.2 _⟩
      have HWn : Aside0 (B ≤ (w9.setCell ⟨bv, 2, none⟩ (.slice A9 (i + 1) c9)).heap.size) := ⟨by have := HG9.out.size; have := HB44.out; simp [World.setCell]; omega⟩
      have HFn : Aside0 (Fr1 w2 (w9.setCell ⟨bv, 2, none⟩ (.slice A9 (i + 1) c9)) bv) := ⟨Fr1.set ⟨HG9.out.os.trans HF4.out.os, HG9.out.tape.trans HF4.out.tape, HG9.out.output.trans HF4.out.output, Nat.le_trans HF4.out.size HG9.out.size, fun k hk hne => (HG9.out.block k (Nat.lt_of_lt_of_le hk HF4.out.size) (fun e => by have := hb0 k e.symm; have := HWB.out; omega)).trans (HF4.out.block k hk hne)⟩ 2 _⟩
      clear KV9 HR9 HG9 kv9 fv9 kv4 fv4 KV4 HR4 HLT2 HGB HB44 HBW4 HF4 HBR4 HB4 HB3 K5 k50 k51 kv3 hb0 HR HB HW HF KV hw3 hw4 hg3 hb5 x0 x1
      generalize w9.setCell ⟨bv, 2, none⟩ (.slice A9 (i + 1) c9) = w10 at *
      go_wp2_with fail
      go_roundg (rows.length - (i + 1))
      case measure => omega
      case rel => exact ⟨i + 1, .slice A9 (i + 1) c9, by go_num, by omega, KVn, HRn, HBn, HWn, HFn⟩
    · obtain rfl : i = rows.length := by omega
      have hge : ¬ ((rows.length : Int) < (rows.length : Int)) := by omega
      have e : rows.take rows.length = rows := List.take_of_length_le (Nat.le_refl _)
      rw [e] at HR
      have HRC := Aside0.mk (Kd.R_reads' HR.out)
      have HRL := Aside0.mk (fun k hk => (R_at_ge HR.out k hk))
      clear HR HLI e
      have HL : Aside0 (LedIs wr p bm bud rows) := ⟨⟨HF.out.blk H2.out.blk HPN.out.1, H2.out.map.fr HF.out HPN.out.2⟩⟩
      have HD : Aside0 (Below wr.heap.size wr wr.drew) := ⟨(Below.refl _ _).drew⟩
      have HC2 : Aside0 (∀ w', Below wr.heap.size wr w' → w'.cell? ⟨p, 0, none⟩ = some (.int .i64 bud) ∧ w'.cell? ⟨bv, 0, none⟩ = some (.int .u64 0) ∧ w'.cell? ⟨bv, 1, none⟩ = some (.slice none 0 0) ∧ w'.cell? ⟨bv, 2, none⟩ = some (.slice Au rows.length cu)) := ⟨fun w' hW => ⟨(HL.out.below hW).cells.1, (blk_cell (blk_below KV.out hW) 0).trans rfl, (blk_cell (blk_below KV.out hW) 1).trans rfl, (blk_cell (blk_below KV.out hW) 2).trans rfl⟩⟩
      have HPUT : Aside0 (Calls Try.prog 64 #[.string ⟨#[91, 110, 42, 91, 110, 110, 93, 93]⟩, .slice (some ⟨wr.heap.size + 1, 0, none⟩) 1 1] ((wr.drew.alloc (Obj.cells #[.int .u64 (IntKind.u64.wrap bud), .slice none 0 0, .slice none 0 0, .int .u64 0, .slice none 0 0, .slice Au rows.length cu] 105)).alloc (Obj.cells #[.int .u64 0, .slice none 0 0, .slice (some ⟨wr.heap.size, 0, none⟩) 2 2] 105)) (PutTopQ shL [valL bud rows] ((wr.drew.alloc (Obj.cells #[.int .u64 (IntKind.u64.wrap bud), .slice none 0 0, .slice none 0 0, .int .u64 0, .slice none 0 0, .slice Au rows.length cu] 105)).alloc (Obj.cells #[.int .u64 0, .slice none 0 0, .slice (some ⟨wr.heap.size, 0, none⟩) 2 2] 105)))) := ⟨by
        have hK1 := k105_mk wr.drew (numV bud) (A1 := none) (c1 := 0) (Nat.le_refl _) (Kd.C_nil _ _) (A2 := none) (c2 := 0) (Nat.le_refl _) (Kd.C_nil _ _)
        have hrl : (rows.map rv).length = rows.length := List.length_map _
        have hK2 := k105_mk wr.drew ⟨0, [], rows.map rv⟩ (A1 := none) (c1 := 0) (Nat.le_refl _) (Kd.C_nil _ _) (A2 := Au) (c2 := cu) (by rw [hrl]; exact HRC.out.2.1) (Kd.C_below HRC.out.2.2 HD.out)
        have hC2 := C33_new wr.drew [numV bud, ⟨0, [], rows.map rv⟩] _ (by
          have := Reps.snoc (Reps.snoc (Reps.none (k105.K wr.drew) 3) hK1 rfl) hK2 rfl
          simpa [hrl] using this) (by simp)
        have hK3 := k105_mk (wr.drew.alloc (Obj.cells #[.int .u64 (IntKind.u64.wrap bud), .slice none 0 0, .slice none 0 0, .int .u64 0, .slice none 0 0, .slice Au rows.length cu] 105)) (valL bud rows) (A1 := none) (c1 := 0) (Nat.le_refl _) (Kd.C_nil _ _) (A2 := some ⟨wr.drew.heap.size, 0, none⟩) (c2 := 2) (Nat.le_refl _) hC2
        have hC3 := C33_new (wr.drew.alloc (Obj.cells #[.int .u64 (IntKind.u64.wrap bud), .slice none 0 0, .slice none 0 0, .int .u64 0, .slice none 0 0, .slice Au rows.length cu] 105)) [valL bud rows] _ (reps33 hK3) (by simp)
        have e2 : (wr.drew.alloc (Obj.cells #[.int .u64 (IntKind.u64.wrap bud), .slice none 0 0, .slice none 0 0, .int .u64 0, .slice none 0 0, .slice Au rows.length cu] 105)).heap.size = wr.heap.size + 1 := World.size_alloc _ _
        rw [e2] at hC3
        refine Put_calls shL [valL bud rows] (some ⟨wr.heap.size + 1, 0, none⟩) 1 _ hC3 (Nat.le_refl _) (fun v hv => ?_) (fun k hk => ?_)
        · rw [List.mem_singleton.1 hv]; exact wf_val bud rows
        · rw [p_le] at hk
          cases hk
          simp only [List.map_cons, List.map_nil, List.flatten_cons, List.flatten_nil, List.append_nil]
          rw [HPV.out]
          have := form_len bud rows
          omega⟩
      go_upto_region 7 with fail
      refine start_ (n := 16) (S := fun w' => w'.cell? ⟨p, 0, none⟩ = some (.int .i64 bud) ∧ w'.cell? ⟨bv, 0, none⟩ = some (.int .u64 0) ∧ w'.cell? ⟨bv, 1, none⟩ = some (.slice none 0 0) ∧ w'.cell? ⟨bv, 2, none⟩ = some (.slice Au rows.length cu)) (ds := []) #[false, false, false, false, false, false, false, false, false, false, false, false, false, false, false, false] (by kernel_rfl) rfl rfl (HC2.out _ HD.out) (fun hHeld => ?_)
      refine pure_ (i := 0) (N := some 32) (v := ?_) (a' := ?_) #[true, false, false, false, false, false, false, false, false, false, false, false, false, false, false, false] rfl rfl (by kernel_rfl) (fun _ _ _ h => h) (Or.inl ⟨by rfl, ?_⟩) ?_ ?_
      rotate_left
      · intro w'
        go_simp
        with_reducible rfl
      rotate_left
      · simp only [Act.put, List.setIfInBounds_toArray, List.set_cons_zero, List.set_cons_succ, i64_w, i32_w]
        rfl
      refine pure_ (i := 1) (N := some 33) (v := ?_) (a' := ?_) #[true, true, false, false, false, false, false, false, false, false, false, false, false, false, false, false] rfl rfl (by kernel_rfl) (fun _ _ _ h => h) (Or.inl ⟨by rfl, ?_⟩) ?_ ?_
      rotate_left
      · intro w'
        go_simp
        with_reducible rfl
      rotate_left
      · simp only [Act.put, List.setIfInBounds_toArray, List.set_cons_zero, List.set_cons_succ, i64_w, i32_w]
        rfl
      refine pure_ (i := 2) (N := some 34) (v := ?_) (a' := ?_) #[true, true, true, false, false, false, false, false, false, false, false, false, false, false, false, false] rfl rfl (by kernel_rfl) (fun _ _ _ h => h) (Or.inl ⟨by rfl, ?_⟩) ?_ ?_
      rotate_left
      · intro w'
        go_simp
        with_reducible rfl
      rotate_left
      · simp only [Act.put, List.setIfInBounds_toArray, List.set_cons_zero, List.set_cons_succ, i64_w, i32_w]
        rfl
      refine take_ (i := 3) (N := some 35) (v := ?_) (a' := ?_) #[true, true, true, true, false, false, false, false, false, false, false, false, false, false, false, false] rfl rfl (by kernel_rfl) (fun _ _ _ h => h) (Or.inl ⟨by rfl, ?_⟩) hHeld ?_ ?_
      rotate_left
      · rintro w' ⟨s0, s1, s2, s3⟩
        go_simp
        with_reducible rfl
      rotate_left
      · simp only [Act.put, List.setIfInBounds_toArray, List.set_cons_zero, List.set_cons_succ, i64_w, i32_w]
        rfl
      refine pure_ (i := 4) (N := some 36) (v := ?_) (a' := ?_) #[true, true, true, true, true, false, false, false, false, false, false, false, false, false, false, false] rfl rfl (by kernel_rfl) (fun _ _ _ h => h) (Or.inl ⟨by rfl, ?_⟩) ?_ ?_
      rotate_left
      · intro w'
        go_simp
        with_reducible rfl
      rotate_left
      · simp only [Act.put, List.setIfInBounds_toArray, List.set_cons_zero, List.set_cons_succ, i64_w, i32_w]
        rfl
      refine pure_ (i := 5) (N := some 37) (v := ?_) (a' := ?_) #[true, true, true, true, true, true, false, false, false, false, false, false, false, false, false, false] rfl rfl (by kernel_rfl) (fun _ _ _ h => h) (Or.inl ⟨by rfl, ?_⟩) ?_ ?_
      rotate_left
      · intro w'
        go_simp
        with_reducible rfl
      rotate_left
      · simp only [Act.put, List.setIfInBounds_toArray, List.set_cons_zero, List.set_cons_succ, i64_w, i32_w]
        rfl
      refine take_ (i := 6) (N := some 38) (v := ?_) (a' := ?_) #[true, true, true, true, true, true, true, false, false, false, false, false, false, false, false, false] rfl rfl (by kernel_rfl) (fun _ _ _ h => h) (Or.inl ⟨by rfl, ?_⟩) hHeld ?_ ?_
      rotate_left
      · rintro w' ⟨s0, s1, s2, s3⟩
        go_simp
        with_reducible rfl
      rotate_left
      · simp only [Act.put, List.setIfInBounds_toArray, List.set_cons_zero, List.set_cons_succ, i64_w, i32_w]
        rfl
      refine one_ (i := 7) (N := some 39) #[true, true, true, true, true, true, true, true, false, false, false, false, false, false, false, false] rfl rfl (by kernel_rfl) (by decide) (fun K hK => ?_)
      refine value_ (w1 := ?_) (v := ?_) (by rfl) rfl ?_ ?_
      rotate_left 2
      · go_simp
        constructor
        · rfl
        · rfl
      have HD2 : Aside0 (Below wr.heap.size wr (wr.drew.alloc (Obj.cells #[.int .u64 (IntKind.u64.wrap bud), .slice none 0 0, .slice none 0 0, .int .u64 0, .slice none 0 0, .slice Au rows.length cu] 105))) := ⟨HD.out.trans ((Below.refl _ wr.drew).alloc (Nat.le_refl _) _)⟩
      refine hK.out _ _ (HC2.out _ HD2.out) (fun hHeld => ?_)
      clear hK K
      refine norm_ (a' := ?_) ?_ ?_
      rotate_left
      · show Act.put _ (some 39) _ = _
        simp only [Act.put, List.setIfInBounds_toArray, List.set_cons_zero, List.set_cons_succ, i64_w, i32_w]
        rfl
      refine pure_ (i := 8) (N := some 40) (v := ?_) (a' := ?_) #[true, true, true, true, true, true, true, true, true, false, false, false, false, false, false, false] rfl rfl (by kernel_rfl) (fun _ _ _ h => h) (Or.inl ⟨by rfl, ?_⟩) ?_ ?_
      rotate_left
      · intro w'
        go_simp
        with_reducible rfl
      rotate_left
      · simp only [Act.put, List.setIfInBounds_toArray, List.set_cons_zero, List.set_cons_succ, i64_w, i32_w]
        rfl
      refine one_ (i := 9) (N := some 41) #[true, true, true, true, true, true, true, true, true, true, false, false, false, false, false, false] rfl rfl (by kernel_rfl) (by decide) (fun K hK => ?_)
      refine value_ (w1 := ?_) (v := ?_) (by rfl) rfl ?_ ?_
      rotate_left 2
      · go_simp
        constructor
        · rfl
        · rfl
      have HD3 : Aside0 (Below wr.heap.size wr ((wr.drew.alloc (Obj.cells #[.int .u64 (IntKind.u64.wrap bud), .slice none 0 0, .slice none 0 0, .int .u64 0, .slice none 0 0, .slice Au rows.length cu] 105)).alloc (Obj.cells #[.int .u64 0, .slice none 0 0, .slice (some ⟨wr.heap.size, 0, none⟩) 2 2] 105))) := ⟨HD2.out.trans (((Below.refl _ (wr.drew.alloc (Obj.cells #[.int .u64 (IntKind.u64.wrap bud), .slice none 0 0, .slice none 0 0, .int .u64 0, .slice none 0 0, .slice Au rows.length cu] 105))).alloc (Nat.le_refl _) _).mono HD2.out.size)⟩
      refine hK.out _ _ (HC2.out _ HD3.out) (fun hHeld => ?_)
      clear hK K
      refine norm_ (a' := ?_) ?_ ?_
      rotate_left
      · show Act.put _ (some 41) _ = _
        simp only [Act.put, List.setIfInBounds_toArray, List.set_cons_zero, List.set_cons_succ, i64_w, i32_w]
        rfl
      refine one_ (i := 10) (N := some 42) #[true, true, true, true, true, true, true, true, true, true, true, false, false, false, false, false] rfl rfl (by kernel_rfl) (by decide) (fun K hK => ?_)
      refine goes_ Try.func64 (by kernel_rfl) rfl #[.string ⟨#[91, 110, 42, 91, 110, 110, 93, 93]⟩, .slice (some ⟨wr.heap.size + 1, 0, none⟩) 1 1] (by rfl) rfl rfl (by (try simp only [List.map_toArray, List.map_cons, List.map_nil]); first | done | rfl) ?_
      refine (HPUT.out).mono ?_
      rintro e w7 hq
      obtain ⟨hB, A7, c7, rfl, hc7, hC7⟩ := put_ok hq p_le (by rw [List.all_cons, has_val]; rfl) (by simp only [List.map_cons, List.map_nil, List.flatten_cons, List.flatten_nil, List.append_nil]; exact HPV.out)
      have HB7 := Aside0.mk (HD3.out.trans (hB.mono HD3.out.size))
      have HC7 := Aside0.mk (And.intro hc7 hC7)
      clear hq hB hc7 hC7
      refine ⟨_, rfl, ?_⟩
      refine hK.out _ _ (HC2.out _ HB7.out) (fun hHeld => ?_)
      clear hK K
      refine norm_ (a' := ?_) ?_ ?_
      rotate_left
      · show Act.put _ (some 42) _ = _
        simp only [Act.put, List.setIfInBounds_toArray, List.set_cons_zero, List.set_cons_succ, i64_w, i32_w]
        rfl
      refine pure_ (i := 11) (N := some 31) (v := ?_) (a' := ?_) #[true, true, true, true, true, true, true, true, true, true, true, true, false, false, false, false] rfl rfl (by kernel_rfl) (fun _ _ _ h => h) (Or.inl ⟨by rfl, ?_⟩) ?_ ?_
      rotate_left
      · intro w'
        go_simp
        with_reducible rfl
      rotate_left
      · simp only [Act.put, List.setIfInBounds_toArray, List.set_cons_zero, List.set_cons_succ, i64_w, i32_w]
        rfl
      refine pure_ (i := 12) (N := some 43) (v := ?_) (a' := ?_) #[true, true, true, true, true, true, true, true, true, true, true, true, true, false, false, false] rfl rfl (by kernel_rfl) (fun _ _ _ h => h) (Or.inl ⟨by rfl, ?_⟩) ?_ ?_
      rotate_left
      · intro w'
        go_simp
        with_reducible rfl
      rotate_left
      · simp only [Act.put, List.setIfInBounds_toArray, List.set_cons_zero, List.set_cons_succ, i64_w, i32_w]
        rfl
      refine pure_ (i := 13) (N := some 44) (v := ?_) (a' := ?_) #[true, true, true, true, true, true, true, true, true, true, true, true, true, true, false, false] rfl rfl (by kernel_rfl) (fun _ _ _ h => h) (Or.inl ⟨by rfl, ?_⟩) ?_ ?_
      rotate_left
      · intro w'
        go_simp
        with_reducible rfl
      rotate_left
      · simp only [Act.put, List.setIfInBounds_toArray, List.set_cons_zero, List.set_cons_succ, i64_w, i32_w]
        rfl
      refine pure_ (i := 14) (N := some 6) (v := ?_) (a' := ?_) #[true, true, true, true, true, true, true, true, true, true, true, true, true, true, true, false] rfl rfl (by kernel_rfl) (fun _ _ _ h => h) (Or.inl ⟨by rfl, ?_⟩) ?_ ?_
      rotate_left
      · intro w'
        go_simp
        with_reducible rfl
      rotate_left
      · simp only [Act.put, List.setIfInBounds_toArray, List.set_cons_zero, List.set_cons_succ, i64_w, i32_w]
        rfl
      refine pure_ (i := 15) (N := some 7) (v := ?_) (a' := ?_) #[true, true, true, true, true, true, true, true, true, true, true, true, true, true, true, true] rfl rfl (by kernel_rfl) (fun _ _ _ h => h) (Or.inl ⟨by rfl, ?_⟩) ?_ ?_
      rotate_left
      · intro w'
        go_simp
        with_reducible rfl
      rotate_left
      · simp only [Act.put, List.setIfInBounds_toArray, List.set_cons_zero, List.set_cons_succ, i64_w, i32_w]
        rfl
      refine done_ (by kernel_rfl) ?_
      clear hHeld HC2 HD HD2 HD3 HPUT
      go_wp2_with fail
      go_ret
      exact ⟨A7, c7, rfl, HC7.out.1, HC7.out.2, HB.out.trans (HB7.out.mono HB.out.size)⟩
end Go.Proofs.Ytnkpleggmiamdaa.Lp
