/- Kept of the text OfP: what is reached (wip/tools/prune.py). -/
import Derived.Test.YtcdlccnpbhjgkaaVOb3
namespace Go.Proofs.Ytcdlccnpbhjgkaa.OfP
open Go.RowKit Go.Proofs.YtcdlccnpbhjgkaaW.PrintWords Go.Proofs.YtcdlccnpbhjgkaaW.PrintLast Go.Proofs.YtcdlccnpbhjgkaaW.PrintMore
open Go.Proofs.Ytcdlccnpbhjgkaa.POrderBytes
set_option linter.unusedVariables false
set_option linter.unusedSimpArgs false
def okF (o : S82) : Bool := decide (o.f0 ≥ 0 ∧ o.f1 ≥ 0 ∧ o.f2 ≥ 0 ∧ o.f3 ≥ 0 ∧ o.f0 < 1099511627776 ∧ o.f1 < 1099511627776 ∧ o.f2 < 1099511627776 ∧ o.f3 < 1099511627776)
def mayF (id ep : Int) (o : S82) : Int :=
  if o.f0 < 1 then 2 else if (!okF o) = true then 2
  else if o.f0 = id then 131 else if o.f0 < id then 70 else if o.f1 < ep then 70 else 0
def passF : List S82 → Int → Int → Int × Int × Int
  | [], id, ep => (0, id, ep)
  | o :: os, id, ep => if mayF id ep o = 0 then passF os o.f0 o.f1 else (mayF id ep o, id, ep)
structure Fr1 (w w' : World) (b : Nat) : Prop where
  os : w'.os = w.os
  tape : w'.tape = w.tape
  output : w'.output = w.output
  size : w.heap.size ≤ w'.heap.size
  block : ∀ k, k < w.heap.size → k ≠ b → w'.heap[k]? = w.heap[k]?
theorem Fr1.refl (w : World) (b : Nat) : Fr1 w w b := ⟨rfl, rfl, rfl, Nat.le_refl _, fun _ _ _ => rfl⟩
theorem Fr1.below {w w1 w2 : World} {b : Nat} (h : Fr1 w w1 b) (hb : Below w1.heap.size w1 w2) : Fr1 w w2 b :=
  ⟨hb.os.trans h.os, hb.tape.trans h.tape, hb.output.trans h.output, Nat.le_trans h.size hb.size, fun k hk hn => (hb.block k (by have := h.size; omega)).trans (h.block k hk hn)⟩
theorem Fr1.blk {w w1 : World} {b g : Nat} {o : Obj} (h : Fr1 w w1 b) (hg : w.heap[g]? = some o) (hn : g ≠ b) : w1.heap[g]? = some o := (h.block g (blk_lt hg) hn).trans hg
theorem Fr1.cell {w w1 : World} {b : Nat} (h : Fr1 w w1 b) {p : Addr} {v : Value} (hn : p.block ≠ b) (hc : w.cell? p = some v) : w1.cell? p = some v := by
  have hlt : p.block < w.heap.size := by
    rcases Nat.lt_or_ge p.block w.heap.size with h | h
    · exact h
    · simp [World.cell?, Array.getElem?_eq_none h] at hc
  rw [World.cell?_of_block (w := w) (h.block p.block hlt hn)]; exact hc
theorem wp_region_below {P : Program} {id : Nat} {Q : Exit → Act → World → Prop} {a : Act} {W : World} {l : List Oper} (hm : P.follows .mixedOrders = true) (hB : Region.lexB .any l.toArray = true)
    (h : wpQuiet P l.toArray (Below W.heap.size W) (fun a' => ∀ w', Below W.heap.size W w' → Q .normal a' w') l a) : (Code.region id l.toArray true).wp P Q a W :=
  wp_region_quiet hm hB ((Below.refl _ _).drew) (by simpa using h)
theorem Calls.quiet_in {P : Program} {f : FuncId} {args : Array Value} {W w1 : World} {v : Value} (hb : Below W.heap.size W w1)
    (h : Calls P f args w1 fun e w' => e = .returned v ∧ Below w1.heap.size w1 w') : Calls P f args w1 fun e w'' => e = .returned v ∧ Below W.heap.size W w'' :=
  h.mono fun _ _ ⟨he, hm⟩ => ⟨he, hb.trans (hm.mono hb.size)⟩
theorem Fr1.set {w w1 : World} {b : Nat} (h : Fr1 w w1 b) (j : Nat) (u : Value) : Fr1 w (w1.setCell ⟨b, j, none⟩ u) b :=
  ⟨h.os, h.tape, h.output, by have := h.size; simpa [World.setCell] using this, fun k hk hn => (Below.heap_setCell w1 ⟨b, j, none⟩ u k hn).trans (h.block k hk hn)⟩
theorem Fr1.drew {w w1 : World} {b : Nat} (h : Fr1 w w1 b) : Fr1 w w1.drew b := ⟨h.os, h.tape, h.output, h.size, h.block⟩
theorem Fr1.to_below {w w1 : World} {b B : Nat} (h : Fr1 w w1 b) (hB : B ≤ b) (hw : B ≤ w.heap.size) : Below B w w1 := ⟨h.os, h.tape, h.output, h.size, fun k hk => h.block k (by omega) (by omega)⟩
theorem drop_rd {os : List S82} {k : Nat} (h : k < os.length) : os.drop k = rd_T82 os k :: os.drop (k + 1) := by
  rw [List.drop_eq_getElem_cons h]
  congr 1
  simp [rd_T82, h]
theorem passF_stop {os : List S82} {k : Nat} {id' ep' : Int} (h : k < os.length) (hm : mayF id' ep' (rd_T82 os k) ≠ 0) : passF (os.drop k) id' ep' = (mayF id' ep' (rd_T82 os k), id', ep') := by
  rw [drop_rd h, passF, if_neg hm]
theorem passF_go {os : List S82} {k : Nat} {id' ep' : Int} (h : k < os.length) (hm : mayF id' ep' (rd_T82 os k) = 0) : passF (os.drop k) id' ep' = passF (os.drop (k + 1)) (rd_T82 os k).f0 (rd_T82 os k).f1 := by
  rw [drop_rd h, passF, if_pos hm]
theorem passF_end {os : List S82} {k : Nat} {id' ep' : Int} (h : ¬ k < os.length) : passF (os.drop k) id' ep' = (0, id', ep') := by
  rw [List.drop_of_length_le (by omega), passF]
theorem right_at {k : Nat} (hk : 5 ≤ k) (a b c d : Int) (hkr : True) : order_right.f k [a, b, c, d] = some (decide (a ≥ 0 ∧ b ≥ 0 ∧ c ≥ 0 ∧ d ≥ 0 ∧ a < 1099511627776 ∧ b < 1099511627776 ∧ c < 1099511627776 ∧ d < 1099511627776)) := by
  obtain ⟨k, rfl⟩ : ∃ m, k = m + 5 := ⟨k - 5, by omega⟩
  have w0 : wrap64 (0 + 1) = 1 := by decide +kernel
  have w1 : wrap64 (1 + 1) = 2 := by decide +kernel
  have w2 : wrap64 (2 + 1) = 3 := by decide +kernel
  have w3 : wrap64 (3 + 1) = 4 := by decide +kernel
  unfold order_right.f
  simp only [order_right.l0, List.length_cons, List.length_nil, w0, w1, w2, w3, rd]
  simp
  repeat' split
  all_goals first | (simp; omega) | simp_all
theorem may_at (id ep : Int) (o : S82) : order_Fence_May.f 6 id ep o.f0 o.f1 o.f2 o.f3 = some (mayF id ep o) := by
  unfold order_Fence_May.f
  rw [right_at (by omega) _ _ _ _ trivial]
  simp only [order_Fence_May.j0, Option.bind_some, mayF, okF]
  repeat' split
  all_goals first | rfl | simp_all
set_option maxHeartbeats 1000000 in
set_option maxRecDepth 100000 in
theorem pass_calls (A0 : Option Addr) (c0 : Nat) (os : List S82) (b : Nat) (id ep : Int) (w : World) (hr0 : Kd.C k82 w A0 os.length os) (hc0 : os.length ≤ c0)
    (hb : w.heap[b]? = some (.cells #[.int .i64 id, .int .i64 ep] 78 (0, 0))) (hA : ∀ a, A0 = some a → 0 < os.length → a.block ≠ b) (hn : os.length < 1000000) :
    Calls Try.prog 47 #[.pointer (some ⟨b, 0, none⟩), .slice A0 os.length c0] w fun e w' => e = .returned (.int .i64 (passF os id ep).1) ∧ w'.heap[b]? = some (.cells #[.int .i64 (passF os id ep).2.1, .int .i64 (passF os id ep).2.2] 78 (0, 0)) ∧ Fr1 w w' b := by
  have HR0 := Aside0.mk hr0
  have HC0 := Aside0.mk hc0
  have HB := Aside0.mk hb
  have HA := Aside0.mk hA
  have HN := Aside0.mk hn
  clear hr0 hc0 hb hA hn
  go_enter Try.func47, Try.ntmps47
  go_wp2
  go_loopw [10] (fun i wr => ∃ (k : Nat) (id' ep' : Int), k ≤ os.length ∧ i = .int .i64 k ∧ Aside0 (passF (os.drop k) id' ep' = passF os id ep) ∧ Aside0 (wr.heap[b]? = some (.cells #[.int .i64 id', .int .i64 ep'] 78 (0, 0))) ∧ Aside0 (Fr1 w wr b)) (fun i _ => os.length - (intOf i).toNat)
  case atStart => exact ⟨0, id, ep, Nat.zero_le _, rfl, ⟨rfl⟩, HB, ⟨Fr1.refl _ _⟩⟩
  case round =>
    obtain ⟨k, id', ep', hk, rfl, HP, HBr, HF⟩ := hrel
    have hbd := HN.out
    by_cases hlt : k < os.length
    · have hlt' : (k : Int) < (os.length : Int) := by omega
      obtain ⟨ad, rfl, h0, h1, h2, h3⟩ := at_T82 HR0.out k (by omega) hlt'
      have hne := HA.out ad rfl (by omega)
      have hne' : (ad.add (k * 4)).block ≠ b := by unfold Addr.add; split <;> exact hne
      clear hne
      simp only [Int.toNat_natCast] at h0 h1 h2 h3
      replace h0 := HF.out.cell (by exact hne') h0
      replace h1 := HF.out.cell (by exact hne') h1
      replace h2 := HF.out.cell (by exact hne') h2
      replace h3 := HF.out.cell (by exact hne') h3
      go_wp2
      have hm := may_at id' ep' (rd_T82 os k)
      obtain ⟨W1, hW1, hB1⟩ : ∃ W1, W1 = wr.alloc (.cells #[.int .i64 (rd_T82 os k).f0, .int .i64 (rd_T82 os k).f1, .int .i64 (rd_T82 os k).f2, .int .i64 (rd_T82 os k).f3] 82) ∧ Below wr.heap.size wr W1 := ⟨_, rfl, (Below.refl _ _).alloc (Nat.le_refl _) _⟩
      have HC : ∀ w1, Below W1.heap.size W1 w1 → w1.cell? ⟨b, 0, none⟩ = some (.int .i64 id') ∧ w1.cell? ⟨b, 1, none⟩ = some (.int .i64 ep') ∧ w1.cell? ⟨wr.heap.size, 0, none⟩ = some (.int .i64 (rd_T82 os k).f0) ∧ w1.cell? ⟨wr.heap.size, 1, none⟩ = some (.int .i64 (rd_T82 os k).f1) ∧ w1.cell? ⟨wr.heap.size, 2, none⟩ = some (.int .i64 (rd_T82 os k).f2) ∧ w1.cell? ⟨wr.heap.size, 3, none⟩ = some (.int .i64 (rd_T82 os k).f3) := by
        intro w1 hb
        have hbl : w1.heap[b]? = some (.cells #[.int .i64 id', .int .i64 ep'] 78 (0, 0)) := by
          have hlt : b < wr.heap.size := blk_lt HBr.out
          rw [hb.block b (by have := hB1.size; omega), hB1.block b hlt]; exact HBr.out
        have hbl2 : w1.heap[wr.heap.size]? = some (.cells #[.int .i64 (rd_T82 os k).f0, .int .i64 (rd_T82 os k).f1, .int .i64 (rd_T82 os k).f2, .int .i64 (rd_T82 os k).f3] 82 (0, 0)) := by
          rw [hb.block _ (by rw [hW1]; simp), hW1]; show (wr.heap.push _)[wr.heap.size]? = _; simp
        exact ⟨(blk_cell hbl 0).trans rfl, (blk_cell hbl 1).trans rfl, (blk_cell hbl2 0).trans rfl, (blk_cell hbl2 1).trans rfl, (blk_cell hbl2 2).trans rfl, (blk_cell hbl2 3).trans rfl⟩
      rw [← hW1]
      clear hW1
      refine wp_region_below (by kernel_rfl) (by kernel_rfl) ?_
      repeat (refine BigFrame.wpQuiet_want (by rfl) (fun K hK => ?_); apply Exists.intro; refine ⟨fun w1 hb1 => ?_, ?_⟩; (focus (obtain ⟨f0, f1, f2, f3, f4, f5⟩ := HC w1 hb1; go_simp; with_reducible rfl)); go_simp; refine hK _ ?_; clear hK K)
      refine BigFrame.wpQuiet_want (by rfl) (fun K hK => ⟨.int .i64 (mayF id' ep' (rd_T82 os k)), fun w1 hb1 => ?_, ?_⟩)
      · go_simp
        exact Calls.quiet_in hb1 (order_Fence_May.calls 6 id' ep' _ _ _ _ _ _ hm)
      go_simp
      refine hK _ ?_
      clear hK K
      repeat (refine BigFrame.wpQuiet_want (by rfl) (fun K hK => ?_); apply Exists.intro; refine ⟨fun w1 hb1 => ?_, ?_⟩; (focus (obtain ⟨f0, f1, f2, f3, f4, f5⟩ := HC w1 hb1; go_simp; with_reducible rfl)); go_simp; refine hK _ ?_; clear hK K)
      refine wpQuiet_nil ?_
      intro w2 hb2
      obtain ⟨f0, f1, f2, f3, f4, f5⟩ := HC w2 hb2
      have hbl : w2.heap[b]? = some (.cells #[.int .i64 id', .int .i64 ep'] 78 (0, 0)) := by
        have hlt : b < wr.heap.size := blk_lt HBr.out
        rw [hb2.block b (by have := hB1.size; omega), hB1.block b hlt]; exact HBr.out
      have e0 := blk_frozen hbl 0
      have e1 := blk_frozen hbl 1
      have HF2 := Aside0.mk (HF.out.below (hB1.trans (hb2.mono hB1.size)))
      have HBL := Aside0.mk hbl
      clear HC hm hB1 hb2 hbl
      by_cases hm0 : mayF id' ep' (rd_T82 os k) = 0
      · have hz : (mayF id' ep' (rd_T82 os k) != 0) = false := by simp [hm0]
        have HM := Aside0.mk hm0
        clear hm0
        go_wp2
        go_region
        go_wp2
        go_roundw
        case rel => exact ⟨k + 1, _, _, by omega, by go_num, ⟨(passF_go hlt HM.out).symm.trans HP.out⟩, ⟨blk_set (blk_set HBL.out 0 _) 1 _⟩, ⟨((HF2.out.set 0 _).set 1 _).drew⟩⟩
        case measure => simp [intOf]; omega
      · have hz : (mayF id' ep' (rd_T82 os k) != 0) = true := by simp [hm0]
        have HM := Aside0.mk hm0
        clear hm0
        go_wp2
        go_ret
        have hP := (passF_stop hlt HM.out).symm.trans HP.out
        rw [← hP]
        exact ⟨rfl, HBL.out, HF2.out⟩
    · go_wp2
      go_ret
      have hP := (passF_end hlt).symm.trans HP.out
      rw [← hP]
      exact ⟨rfl, HBr.out, HF.out⟩
end Go.Proofs.Ytcdlccnpbhjgkaa.OfP
