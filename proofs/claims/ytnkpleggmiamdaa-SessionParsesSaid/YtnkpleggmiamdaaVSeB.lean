/- Kept of the text SeB: what is reached (wip/tools/prune.py). -/
import Derived.Test.YtnkpleggmiamdaaVSeA
namespace Go.Proofs.Ytnkpleggmiamdaa.Se
open Go.RowKit Go.Maps Go.Proofs.YtnkpleggmiamdaaW.PrintWords Go.Proofs.YtnkpleggmiamdaaW.PrintLast Go.Proofs.YtnkpleggmiamdaaW.PrintMore
open Go.Proofs.Ytnkpleggmiamdaa.PSessionOnce Go.Proofs.Ytnkpleggmiamdaa.Mp
set_option linter.unusedVariables false
set_option linter.unusedSimpArgs false
theorem callFunc59 (caps : Array Value) (w : World) : Sem.run Try.prog (callFunc 59 caps) w = .ok (.enter 59 caps) w := by kernel_rfl
theorem answers_calls (s : ByteArray) (w : World) : Calls Try.prog 20 #[.string s] w fun e w' => e = .returned (.func (.func 59) #[] #[.pointer (some ⟨w.heap.size, 0, none⟩)]) ∧ w' = w.alloc (.cells #[.string s] 9) := by
  have hmf : ∀ (fn : Fn) (first cap : Array Value) (w : World), (Instr.makeFunc fn first cap).run Try.prog w = .ok (.func fn first cap) w := fun _ _ _ _ => rfl
  go_enter Try.func20, Try.ntmps20
  go_wp2
  go_ret
  exact ⟨rfl, rfl⟩
theorem do3_calls (b : Nat) (s : ByteArray) (w : World) (h : w.heap[b]? = some (.cells #[.string s] 9 (0, 0))) (hl : s.size ≤ 140737488355328) :
    Calls Try.prog 59 #[.pointer (some ⟨b, 0, none⟩)] w fun e w' => ∃ A q, e = .returned (.slice A (bytesOf s).length q) ∧ Bs w' A q (bytesOf s) ∧ Below w.heap.size w w' := by
  have c7 : w.cell? ⟨b, 0, none⟩ = some (.string s) := (blk_cell h 0).trans rfl
  have hc := Lib.run_convert_string_bytes w 9 26 5 s Try.underlying9 Try.underlying26 Try.underlying5
  go_enter Try.func59, Try.ntmps59
  go_wp2
  go_ret
  have hR := Kd.C_of_reads (d := (0 : Int)) (h1 := fun _ => rfl) (bytes_reads w 5 s (by omega))
  refine ⟨some ⟨w.heap.size, 0, none⟩, grownCap w s.size 0 5, by rw [bytesOf_length]; rfl, ⟨by rw [bytesOf_length]; exact hR, by rw [bytesOf_length]; exact grownCap_ge _ _ _ _, by rw [bytesOf_length]; exact hl⟩, bytes_below (Below.refl _ _) (Nat.le_refl _) _ _⟩
theorem once_new_ans (ok : Nat → Prop) (p bm : Nat) (V : View) (c s : Int) (b : Nat) (str : ByteArray) (w : World) (h : TableIs w ok p bm V) (hr : rightF c s = true) (hs : (lastV V c).1 < s) (hw : (Lit.int .i64 c).wf = true) (hob : ¬ ok bm)
    (hb : w.heap[b]? = some (.cells #[.string str] 9 (0, 0))) (hl : str.size ≤ 140737488355328) :
    Calls Try.prog 16 #[.pointer (some ⟨p, 0, none⟩), .int .i64 c, .int .i64 s, .func (.func 59) #[] #[.pointer (some ⟨b, 0, none⟩)]] w fun e w' => ∃ v A, e = .returned (.tuple #[v, .int .i64 0]) ∧ Answer w w' v (bytesOf str) A ∧
      TableIs w' (fun k => (ok k ∨ w.heap.size ≤ k) ∧ ¬ AtB A k) p bm (aput c (s, bytesOf str) V) ∧ FrS (fun k => k = bm) w w' := by
  refine (once_new ok p bm V c s 59 #[.pointer (some ⟨b, 0, none⟩)] (bytesOf str) (fun _ => False) (fun _ _ => True) w h hr hs hw (fun h => h) (fun h => h) (fun _ _ h => h) (fun _ h => h.elim) hob (callFunc59 _) ?_).mono ?_
  · intro w1 hB
    refine (do3_calls b str w1 (blk_below hb hB) hl).mono ?_
    rintro e w2 ⟨A, q, rfl, hq, hB2⟩
    exact ⟨A, q, rfl, hq, FrS.of_below hB2, trivial⟩
  · rintro e w' ⟨v, A, w1, w2, rfl, hA, hT, hB, hF, _, hF2⟩
    have z1 := hB.size
    have z2 := hF.size
    exact ⟨v, A, rfl, hA, hT, ⟨hF2.os.trans (hF.os.trans hB.os), hF2.tape.trans (hF.tape.trans hB.tape), hF2.output.trans (hF.output.trans hB.output), by have := hF2.size; omega, fun k hk hn =>
      (hF2.block k (by omega) (fun e => e.elim hn (fun e => by omega))).trans ((hF.block k (by omega) (fun h => h)).trans (hB.block k hk))⟩⟩
theorem Answer.str {w w' W : World} {v : Value} {bs : List Int} {A : Option Addr} (h : Answer w w' v bs A) (hm : ∀ k, AtB A k → k < w'.heap.size → W.heap[k]? = w'.heap[k]?) : (convert 26 9 v).run Try.prog W = .ok (.string (strOfNums bs)) W := by
  obtain ⟨c, rfl, hb⟩ := h.ex
  exact run_str Try.underlying26 Try.underlying5 Try.underlying9 (hb.move hm).row c
set_option maxHeartbeats 1000000 in
set_option maxRecDepth 100000 in
theorem awake_calls (w : World) : Calls Try.prog 14 #[] w fun e w' => e = .returned (.bool true) ∧ Below w.heap.size w w' := by
  go_enter Try.func14, Try.ntmps14
  go_wp2_with fail
  refine (new_calls w).mono ?_
  rintro e w1 ⟨rfl, hw1⟩
  have T0 : TableIs w1 (fun k => k ≠ w.heap.size) (w.heap.size + 1) w.heap.size [] := by
    rw [hw1]
    exact ⟨[], rfl, ⟨by simpa using blk_new (w.alloc (.map #[] 0)) (.cells #[.map (some w.heap.size)] 98), (MapIs.made w).alloc _, fun x hx => by simp at hx⟩⟩
  have B0 : Below w.heap.size w w1 := by rw [hw1]; exact ((Below.refl _ _).alloc (Nat.le_refl _) _).alloc (by simp) _
  have z1 : w1.heap.size = w.heap.size + 2 := by rw [hw1]; simp
  have HT := Aside0.mk T0
  have HB := Aside0.mk B0
  have HZ := Aside0.mk z1
  clear T0 B0 z1 hw1
  go_wp2_with fail
  refine (answers_calls _ _).mono ?_
  rintro e w2 ⟨rfl, rfl⟩
  go_wp2_with fail
  refine (once_new_ans (fun k => k ≠ w.heap.size) (w.heap.size + 1) w.heap.size [] 7 1 w1.heap.size ⟨#[97]⟩ _ (HT.out.below ((Below.refl _ _).alloc (Nat.le_refl _) _)) (by decide +kernel) (by decide +kernel) (by decide +kernel) (by simp) (blk_new _ _) (by decide)).mono ?_
  rintro e w3 ⟨v3, A3, rfl, hA, hT, hF⟩
  have HA3 := Aside0.mk hA
  have HT3 := Aside0.mk hT
  have HB3 := Aside0.mk ((HB.out.alloc HB.out.size (.cells #[.string ⟨#[97]⟩] 9)).trans (hF.to_below (B := w.heap.size) (fun k h => Nat.le_of_eq h.symm) (by have := HZ.out; simp; omega)))
  clear hA hT hF HT HB
  go_wp2_with fail
  refine (answers_calls _ _).mono ?_
  rintro e w4 ⟨rfl, rfl⟩
  go_wp2_with fail
  refine (once_same _ (w.heap.size + 1) w.heap.size _ 7 1 _ _ (HT3.out.below ((Below.refl _ _).alloc (Nat.le_refl _) (.cells #[.string ⟨#[98]⟩] 9))) (by decide +kernel) (by decide +kernel)).mono ?_
  rintro e w5 ⟨v5, A5, rfl, hA, hB⟩
  have HA5 := Aside0.mk hA
  have HT5 := Aside0.mk ((HT3.out.below ((Below.refl _ _).alloc (Nat.le_refl _) (.cells #[.string ⟨#[98]⟩] 9))).below hB)
  have HB35 := Aside0.mk (((Below.refl w3.heap.size w3).alloc (Nat.le_refl _) (.cells #[.string ⟨#[98]⟩] 9)).trans (hB.mono (by simp)))
  have HB5 := Aside0.mk (HB3.out.trans (HB35.out.mono HB3.out.size))
  clear hA hB HT3
  go_wp2_with fail
  refine (answers_calls _ _).mono ?_
  rintro e w6 ⟨rfl, rfl⟩
  go_wp2_with fail
  refine (once_new_ans _ (w.heap.size + 1) w.heap.size _ 7 3 w5.heap.size ⟨#[99]⟩ _ (HT5.out.below ((Below.refl _ _).alloc (Nat.le_refl _) _)) (by decide +kernel) (by decide +kernel) (by decide +kernel) ?_ (blk_new _ _) (by decide)).mono ?_
  · rintro ⟨h | h, _⟩
    · exact h rfl
    · have := HZ.out; simp at h; omega
  rintro e w7 ⟨v7, A7, rfl, hA, hT, hF⟩
  have HA7 := Aside0.mk hA
  have HT7 := Aside0.mk hT
  have HF57 := Aside0.mk (FrS.of_new ((Below.refl w5.heap.size w5).alloc (Nat.le_refl _) (.cells #[.string ⟨#[99]⟩] 9)) hF)
  have HB7 := Aside0.mk (HB5.out.trans (HF57.out.to_below (B := w.heap.size) (fun k h => Nat.le_of_eq h.symm) HB5.out.size))
  clear hA hT hF HT5
  go_wp2_with fail
  refine (answers_calls _ _).mono ?_
  rintro e w8 ⟨rfl, rfl⟩
  go_wp2_with fail
  refine (once_seq _ (w.heap.size + 1) w.heap.size _ 7 2 _ _ (HT7.out.below ((Below.refl _ _).alloc (Nat.le_refl _) (.cells #[.string ⟨#[100]⟩] 9))) (by decide +kernel) (by decide +kernel)).mono ?_
  rintro e w9 ⟨rfl, hB⟩
  have HT9 := Aside0.mk ((HT7.out.below ((Below.refl _ _).alloc (Nat.le_refl _) (.cells #[.string ⟨#[100]⟩] 9))).below hB)
  have HB79 := Aside0.mk (((Below.refl w7.heap.size w7).alloc (Nat.le_refl _) (.cells #[.string ⟨#[100]⟩] 9)).trans (hB.mono (by simp)))
  have HB9 := Aside0.mk (HB7.out.trans (HB79.out.mono HB7.out.size))
  have s7 := HA7.out.str (W := w9) (fun k _ hk => HB79.out.block k hk)
  have s5 := HA5.out.str (W := w9) (fun k h hk => (HB79.out.block k (by have := HF57.out.size; omega)).trans (HF57.out.block k hk (fun e => by have := (HA5.out.new k h).1; have := HB3.out.size; have := HZ.out; simp at *; omega)))
  have s3 := HA3.out.str (W := w9) (fun k h hk => (HB79.out.block k (by have := HF57.out.size; have := HB35.out.size; omega)).trans ((HF57.out.block k (by have := HB35.out.size; omega) (fun e => by have := (HA3.out.new k h).1; have := HZ.out; simp at *; omega)).trans (HB35.out.block k hk)))
  rw [show strOfNums (bytesOf ⟨#[99]⟩) = ⟨#[99]⟩ from by decide +kernel] at s7
  rw [show strOfNums (lastV (aput 7 (1, bytesOf ⟨#[97]⟩) []) 7).2 = ⟨#[97]⟩ from by decide +kernel] at s5
  rw [show strOfNums (bytesOf ⟨#[97]⟩) = ⟨#[97]⟩ from by decide +kernel] at s3
  clear hB HT7
  go_wp2_with (go_at_call 22; refine (len_calls _ (w.heap.size + 1) w.heap.size _ _ HT9.out).mono ?_; rintro e w' ⟨rfl, rfl⟩)
  go_ret
  exact ⟨rfl, HB9.out⟩
end Go.Proofs.Ytnkpleggmiamdaa.Se
