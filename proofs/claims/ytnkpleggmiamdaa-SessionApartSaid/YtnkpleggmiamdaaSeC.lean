/- SessionOnce, walked. -/
import Derived.Test.YtnkpleggmiamdaaSeB
import Derived.Test.YtnkpleggmiamdaaHeC
import Derived.Laws.MakeOwn
import Derived.Deep.LoopGhost
namespace Go.Proofs.Ytnkpleggmiamdaa.Se
open Go.RowKit Go.Maps Go.Proofs.YtnkpleggmiamdaaW.PrintWords Go.Proofs.YtnkpleggmiamdaaW.PrintLast Go.Proofs.YtnkpleggmiamdaaW.PrintMore
open Go.Proofs.Ytnkpleggmiamdaa.PSessionOnce Go.Proofs.Ytnkpleggmiamdaa.Mp
open Go.Proofs.Ytnkpleggmiamdaa.He (mdw mdw_bd mdw_one)
set_option linter.unusedVariables false
set_option linter.unusedSimpArgs false

theorem info3 : (Try.prog.info? 3).map (fun i => (i.zero, i.size, i.bytes)) = some (some (.int .i64 0), 1, 8) := by kernel_rfl
theorem make20 (w : World) : (Instr.makeSlice 22 (.int .i64 20) (.int .i64 20)).run Try.prog w = .ok (.slice (some ⟨w.heap.size, 0, none⟩) 20 20) (w.alloc (.cells (tcells (List.replicate 20 0)) 3)) := by
  obtain ⟨i, hi, hz, hs, hb⟩ := info_parts info3
  have := run_make w 22 3 i (.int .i64 0) Try.underlying22 hi hz .i64 .i64 20 20 (by omega) (by omega) (by rw [hb]; omega) (by omega)
  rw [hs] at this
  rw [this]
  have e : madeCells (Value.int IntKind.i64 0).cells ((20 : Int).toNat * 1) = tcells (List.replicate 20 0) := by kernel_rfl
  rw [e]; rfl

theorem TableIs.weak {w : World} {ok ok' : Nat → Prop} {p bm : Nat} {V : View} (h : TableIs w ok p bm V) (hok : ∀ k, ok k → k < w.heap.size → ok' k) : TableIs w ok' p bm V :=
  h.frS (S := fun _ => False) (FrS.refl _ w) (fun h => h) (fun h => h) (fun _ _ _ h => h) hok

theorem TableIs.ne_bm {w : World} {ok : Nat → Prop} {p bm x : Nat} {V : View} (h : TableIs w ok p bm V) {cs : Array Value} {t : Nat} {f : Nat × Nat} (hx : w.heap[x]? = some (.cells cs t f)) : x ≠ bm := by
  rintro rfl
  obtain ⟨M, _, T⟩ := h
  obtain ⟨es, c, hb, _⟩ := T.map.out
  rw [hx] at hb
  cases hb

/-- What the loop keeps of the memory. -/
structure Mem (w wr : World) (p bm x7 xt : Nat) (V : View) (ts : List Int) : Prop where
  h7 : wr.heap[x7]? = some (.cells #[.slice (some ⟨xt, 0, none⟩) 20 20] 22 (0, 0))
  ht : wr.heap[xt]? = some (.cells (tcells ts) 3 (0, 0))
  tab : TableIs wr (fun x => x ≠ xt ∧ x ≠ bm) p bm V
  new : w.heap.size ≤ xt ∧ w.heap.size ≤ bm
  ne : xt ≠ bm ∧ x7 ≠ xt ∧ p ≠ xt ∧ x7 ≠ bm ∧ p ≠ bm
  lt : bm < wr.heap.size
  below : Below w.heap.size w wr
theorem Mem.next {w wr w1 : World} {p bm x7 xt : Nat} {V : View} {ts : List Int} (h : Mem w wr p bm x7 xt V ts) (hb : Below wr.heap.size wr w1) : Mem w w1 p bm x7 xt V ts :=
  ⟨blk_below h.h7 hb, blk_below h.ht hb, h.tab.below hb, h.new, h.ne, Nat.lt_of_lt_of_le h.lt hb.size, h.below.trans (hb.mono h.below.size)⟩
/-- What the law says of it. -/
structure OnceOk (c : Int) (V : View) (ts : List Int) : Prop where
  len : ts.length = 20
  ans : (lastV V c).1 = 0 ∨ ∃ x, (lastV V c).2 = [(lastV V c).1, x]
  pos : 0 ≤ (lastV V c).1
  le : ∀ j, 0 ≤ ts.getD j 0 ∧ ts.getD j 0 ≤ 1
  zero : ∀ j : Nat, (lastV V c).1 < j → ts.getD j 0 = 0

theorem rep0 (j : Nat) : (List.replicate 20 (0 : Int)).getD j 0 = 0 := by
  unfold List.getD
  rw [List.getElem?_replicate]
  split <;> rfl
theorem lastV_put (c : Int) (v : Int × List Int) (V : View) : lastV (aput c v V) c = v := by
  unfold lastV; rw [alook_put_same]; rfl
theorem OnceOk.put {c : Int} {V : View} {ts : List Int} (h : OnceOk c V ts) {s : Nat} (h1 : (lastV V c).1 < s) (h2 : s ≤ 19) (k : Int) : OnceOk c (aput c ((s : Int), [(s : Int), k]) V) (ts.set s (ts.getD s 0 + 1)) := by
  have hz := h.zero s h1
  have hp := h.pos
  have hl := h.len
  refine ⟨by simp [hl], .inr ⟨k, by rw [lastV_put]⟩, by rw [lastV_put]; show (0 : Int) ≤ s; omega, fun j => ?_, fun j hj => ?_⟩
  · rw [hz]
    by_cases e : s = j
    · subst e; simp [List.getD, List.getElem?_set, hl, show s < 20 by omega]
    · have : (ts.set s (0 + 1)).getD j 0 = ts.getD j 0 := by simp [List.getD, List.getElem?_set, e]
      rw [this]; exact h.le j
  · rw [lastV_put] at hj
    have hj' : (s : Int) < j := hj
    have : (ts.set s (ts.getD s 0 + 1)).getD j 0 = ts.getD j 0 := by simp [List.getD, List.getElem?_set, show s ≠ j by omega]
    rw [this]; exact h.zero j (by omega)

theorem new_tab (w : World) : Calls Try.prog 15 #[] w fun e w' => e = .returned (.pointer (some ⟨w.heap.size + 1, 0, none⟩)) ∧ TableIs w' (fun x => x < w.heap.size) (w.heap.size + 1) w.heap.size [] ∧ Below w.heap.size w w' ∧ w'.heap.size = w.heap.size + 2 := by
  refine (new_calls w).mono ?_
  rintro e w2 ⟨rfl, rfl⟩
  refine ⟨rfl, ⟨[], rfl, ?_, (MapIs.made w).alloc _, by simp⟩, ((Below.refl _ _).alloc (Nat.le_refl _) _).alloc (by simp) _, by simp⟩
  have := blk_new (w.alloc (.map #[] 0)) (.cells #[.map (some w.heap.size)] 98)
  rw [show (w.alloc (.map #[] 0)).heap.size = w.heap.size + 1 from by simp] at this
  exact this

set_option maxHeartbeats 2000000 in
set_option maxRecDepth 100000 in
theorem law_calls (a0 : Int) (A : Option Addr) (c : Nat) (acts : List Int) (w : World) (hr : (Kd.int .i64).C w A acts.length acts) (hc : acts.length ≤ c) (w0 : (Lit.int .i64 a0).wf = true) :
    Calls Try.prog 3 #[.int .i64 a0, .slice A acts.length c] w fun e w' => e = .returned (.bool true) ∧ Below w.heap.size w w' := by
  have HR := Aside0.mk hr
  have HC := Aside0.mk hc
  clear hr hc
  by_cases hlen : (60 : Int) < acts.length
  · go_enter Try.func3, Try.ntmps3
    go_wp2_with fail
    refine (awake_calls _).mono ?_
    rintro e w1 ⟨rfl, hb⟩
    have HB1 := Aside0.mk hb
    clear hb
    go_wp2_with fail
    refine (awake_calls _).mono ?_
    rintro e w2 ⟨rfl, hb⟩
    have HB2 := Aside0.mk (HB1.out.trans (hb.mono HB1.out.size))
    clear hb
    go_wp2_with fail
    go_ret
    exact ⟨rfl, HB2.out⟩
  · obtain ⟨me, e0, b1, b2⟩ : ∃ me, (wrap64 (a0.tmod 1000 + 1000)).tmod 1000 = me ∧ 0 ≤ me ∧ me < 1000 :=
      ⟨_, rfl, mdw_bd a0 1000 (by omega) (by omega)⟩
    have hmk := make20
    have hmf : ∀ (fn : Fn) (first cap : Array Value) (w : World), (Instr.makeFunc fn first cap).run Try.prog w = .ok (.func fn first cap) w := fun _ _ _ _ => rfl
    go_enter Try.func3, Try.ntmps3
    go_wp2_with fail
    refine (awake_calls _).mono ?_
    rintro e w1 ⟨rfl, hb⟩
    have HB1 := Aside0.mk hb
    clear hb
    go_wp2_with fail
    refine (new_tab _).mono ?_
    rintro e w2 ⟨rfl, hT, hB, hz⟩
    have HB2 := Aside0.mk (HB1.out.trans (hB.mono HB1.out.size))
    have HT2 := Aside0.mk hT
    have HZ := Aside0.mk (show w.heap.size ≤ w1.heap.size ∧ w2.heap.size = w1.heap.size + 2 from ⟨HB1.out.size, hz⟩)
    clear hT hB hz HB1
    go_wp2_with fail
    clear e0
    go_loopg [8] acts.length (fun g v8 wr => ∃ (k x8 : Nat) (V : View) (ts : List Int), v8 = .pointer (some ⟨x8, 0, none⟩) ∧ k + g = acts.length ∧ Aside0 (wr.heap[x8]? = some (.cells #[.int .i64 k] 3 (0, 0))) ∧ Aside0 (Mem w wr (w1.heap.size + 1) w1.heap.size (w2.heap.size + 1) w2.heap.size V ts) ∧ Aside0 (OnceOk me V ts))
    case atStart =>
      have z := HZ.out
      have d1 := blk_new w2 (.cells (tcells (List.replicate 20 0)) 3)
      have d2 := blk_new (w2.alloc (.cells (tcells (List.replicate 20 0)) 3)) (.cells #[.slice (some ⟨w2.heap.size, 0, none⟩) 20 20] 22)
      have d3 := blk_new ((w2.alloc (.cells (tcells (List.replicate 20 0)) 3)).alloc (.cells #[.slice (some ⟨w2.heap.size, 0, none⟩) 20 20] 22)) (.cells #[.int .i64 0] 3)
      rw [show ((w2.alloc (.cells (tcells (List.replicate 20 0)) 3)).alloc (.cells #[.slice (some ⟨w2.heap.size, 0, none⟩) 20 20] 22)).heap.size = w2.heap.size + 1 + 1 from by simp] at d3
      rw [show (w2.alloc (.cells (tcells (List.replicate 20 0)) 3)).heap.size = w2.heap.size + 1 from by simp] at d2
      have B := (((Below.refl w2.heap.size w2).alloc (Nat.le_refl _) (.cells (tcells (List.replicate 20 0)) 3)).alloc (by simp) (.cells #[.slice (some ⟨w2.heap.size, 0, none⟩) 20 20] 22)).alloc (by simp; omega) (.cells #[.int .i64 0] 3)
      exact ⟨0, _, [], List.replicate 20 0, rfl, by omega, ⟨d3⟩, ⟨blk_alloc d2 _, blk_alloc (blk_alloc d1 _) _, (HT2.out.below B).weak (fun k hk _ => by omega), ⟨by omega, by omega⟩, ⟨by omega, by omega, by omega, by omega, by omega⟩, by simp; omega, HB2.out.trans (B.mono HB2.out.size)⟩, ⟨by simp, .inl rfl, by simp [lastV, alook], fun j => by rw [rep0]; omega, fun j _ => rep0 j⟩⟩
    case round =>
      obtain ⟨k, x8, V, ts, rfl, hk, H8, HM, HO⟩ := hrel
      have c8 : wr.cell? ⟨x8, 0, none⟩ = some (.int .i64 k) := (blk_cell H8.out 0).trans rfl
      have hk60 : k ≤ 60 := by omega
      by_cases hlt : k < acts.length
      · have hlt' : (k : Int) < (acts.length : Int) := by omega
        obtain ⟨ad, rfl, h0⟩ := Kd.at_int (Kd.C_below HR.out HM.out.below) k (by omega) hlt'
        simp only [Int.toNat_natCast] at h0
        generalize rd acts k = q at h0
        obtain ⟨s, e1, b3, b4⟩ : ∃ s : Nat, wrap64 (1 + (wrap64 (q.tmod 19 + 19)).tmod 19) = (s : Int) ∧ 1 ≤ s ∧ s ≤ 19 := by
          have := mdw_bd q 19 (by omega) (by omega)
          exact ⟨(1 + mdw q 19).toNat, by rw [mdw_one q 19 (by omega) (by omega)]; omega, by omega, by omega⟩
        have hrt : rightF me s = true := by unfold rightF; simp; omega
        go_wp2_with fail
        have B1 : Below wr.heap.size wr (wr.alloc (.cells #[.int .i64 s] 3)) := (Below.refl _ _).alloc (Nat.le_refl _) _
        have HM1 := Aside0.mk (HM.out.next B1)
        have H9 := Aside0.mk (blk_new wr (.cells #[.int .i64 s] 3))
        replace H8 := Aside0.mk (blk_alloc H8.out (.cells #[.int .i64 s] 3))
        have HLT := Aside0.mk (show wr.heap.size < (wr.alloc (.cells #[.int .i64 s] 3)).heap.size by simp)
        clear B1 HM c8 h0
        generalize hx9 : wr.heap.size = x9 at HM1 H9 HLT ⊢
        generalize wr.alloc (.cells #[.int .i64 s] 3) = wr1 at HM1 H9 H8 HLT ⊢
        clear hx9 wr
        rcases Int.lt_trichotomy s (lastV V me).1 with hs | hs | hs
        · refine (once_seq _ _ _ V me s _ wr1 HM1.out.tab hrt hs).mono ?_
          rintro e w4 ⟨rfl, hB⟩
          have HM2 := Aside0.mk (HM1.out.next hB)
          replace H9 := Aside0.mk (blk_below H9.out hB)
          replace H8 := Aside0.mk (blk_below H8.out hB)
          clear HM1 hB HLT
          have c9 : w4.cell? ⟨x9, 0, none⟩ = some (.int .i64 s) := (blk_cell H9.out 0).trans rfl
          go_wp2_with fail
          refine (once_seq _ _ _ V me s _ w4 HM2.out.tab hrt hs).mono ?_
          rintro e w5 ⟨rfl, hB⟩
          have HM3 := Aside0.mk (HM2.out.next hB)
          replace H9 := Aside0.mk (blk_below H9.out hB)
          replace H8 := Aside0.mk (blk_below H8.out hB)
          clear HM2 hB c9 hs
          have c9 : w5.cell? ⟨x9, 0, none⟩ = some (.int .i64 s) := (blk_cell H9.out 0).trans rfl
          have c8 : w5.cell? ⟨x8, 0, none⟩ = some (.int .i64 k) := (blk_cell H8.out 0).trans rfl
          have c7 : w5.cell? ⟨w2.heap.size + 1, 0, none⟩ = some (.slice (some ⟨w2.heap.size, 0, none⟩) 20 20) := (blk_cell HM3.out.h7 0).trans rfl
          have ct : w5.cell? ⟨w2.heap.size, s, none⟩ = some (.int .i64 ((ts).getD s 0)) := (blk_cell HM3.out.ht s).trans (tcells_get _ s (by have := HO.out.len; omega))
          have hcv : ∀ n, (convert 26 9 (.slice none 0 0)).run Try.prog (w5.drewN n) = .ok (.string ⟨#[]⟩) (w5.drewN n) := fun n => run_str Try.underlying26 Try.underlying5 Try.underlying9 (Bs.nil _).row 0
          have hle : decide (1 < (ts).getD s 0) = false := by have := (HO.out.le s).2; simp only [decide_eq_false_iff_not]; omega
          generalize (ts).getD s 0 = tv at ct hle
          go_wp2_with fail
          go_quiet (fail)
          replace HM3 := Aside0.mk (HM3.out.next (pw_below_drewN (Below.refl _ _) nq))
          replace H8 := Aside0.mk (blk_drewN H8.out nq)
          clear c7 c8 c9 ct hle hcv
          generalize w5.drewN nq = w6 at HM3 H8 ⊢
          have c8 : w6.cell? ⟨x8, 0, none⟩ = some (.int .i64 k) := (blk_cell H8.out 0).trans rfl
          go_wp2_with fail
          go_roundg (gk - 1)
          case measure => omega
          case rel => exact ⟨k + 1, _, _, _, rfl, by omega, ⟨blk_new w6 (.cells #[.int .i64 (k + 1)] 3)⟩, ⟨HM3.out.next ((Below.refl w6.heap.size w6).alloc (Nat.le_refl _) (.cells #[.int .i64 (k + 1)] 3))⟩, ⟨HO.out⟩⟩
        · obtain ⟨x, hx⟩ := HO.out.ans.resolve_left (by omega)
          rw [← hs] at hx
          refine (once_same _ _ _ V me s _ wr1 HM1.out.tab hrt hs).mono ?_
          rintro e w4 ⟨v4, A4, rfl, hA, hB⟩
          rw [hx] at hA
          have HS := Aside0.mk hs
          have HX := Aside0.mk hx
          clear hs hx
          have HA4 := Aside0.mk hA
          have HM2 := Aside0.mk (HM1.out.next hB)
          replace H9 := Aside0.mk (blk_below H9.out hB)
          replace H8 := Aside0.mk (blk_below H8.out hB)
          clear HM1 hB HLT hA
          have c9 : w4.cell? ⟨x9, 0, none⟩ = some (.int .i64 s) := (blk_cell H9.out 0).trans rfl
          go_wp2_with fail
          refine (once_same _ _ _ V me s _ w4 HM2.out.tab hrt HS.out).mono ?_
          rintro e w5 ⟨v5, A5, rfl, hA, hB⟩
          rw [HX.out] at hA
          have HM3 := Aside0.mk (HM2.out.next hB)
          replace H9 := Aside0.mk (blk_below H9.out hB)
          replace H8 := Aside0.mk (blk_below H8.out hB)
          have hcv4 : ∀ n, (convert 26 9 v4).run Try.prog (w5.drewN n) = .ok (.string (strOfNums [(s : Int), x])) (w5.drewN n) := fun n => HA4.out.str (fun k _ hk => hB.block k hk)
          have hcv5 : ∀ n, (convert 26 9 v5).run Try.prog (w5.drewN n) = .ok (.string (strOfNums [(s : Int), x])) (w5.drewN n) := fun n => hA.str (fun k _ hk => rfl)
          generalize strOfNums [(s : Int), x] = str at hcv4 hcv5
          obtain ⟨c4, rfl, hb4⟩ := HA4.out.ex
          obtain ⟨ad4, rfl, hr4⟩ := Kd.at_int (hb4.below hB).row 0 (by omega) (by simp)
          rw [show rd [(s : Int), x] 0 = s from rfl] at hr4
          obtain ⟨c5, rfl, hb5⟩ := hA.ex
          simp only [Int.toNat_zero, List.length_cons, List.length_nil, Nat.zero_add, Nat.reduceAdd] at hr4 hcv4 hcv5 ⊢
          have hr5 : w5.cell? ad4 = some (.int .u8 s) := hr4
          clear HM2 hB c9 hA HA4 hb4 hb5
          have c9 : w5.cell? ⟨x9, 0, none⟩ = some (.int .i64 s) := (blk_cell H9.out 0).trans rfl
          have c8 : w5.cell? ⟨x8, 0, none⟩ = some (.int .i64 k) := (blk_cell H8.out 0).trans rfl
          have c7 : w5.cell? ⟨w2.heap.size + 1, 0, none⟩ = some (.slice (some ⟨w2.heap.size, 0, none⟩) 20 20) := (blk_cell HM3.out.h7 0).trans rfl
          have ct : w5.cell? ⟨w2.heap.size, s, none⟩ = some (.int .i64 ((ts).getD s 0)) := (blk_cell HM3.out.ht s).trans (tcells_get _ s (by have := HO.out.len; omega))
          have hle : decide (1 < (ts).getD s 0) = false := by have := (HO.out.le s).2; simp only [decide_eq_false_iff_not]; omega
          generalize (ts).getD s 0 = tv at ct hle
          go_wp2_with fail
          go_quiet (fail)
          replace HM3 := Aside0.mk (HM3.out.next (pw_below_drewN (Below.refl _ _) nq))
          replace H8 := Aside0.mk (blk_drewN H8.out nq)
          clear c7 c8 c9 ct hle hcv4 hcv5 hr4 hr5
          generalize w5.drewN nq = w6 at HM3 H8 ⊢
          have c8 : w6.cell? ⟨x8, 0, none⟩ = some (.int .i64 k) := (blk_cell H8.out 0).trans rfl
          go_wp2_with fail
          go_roundg (gk - 1)
          case measure => omega
          case rel => exact ⟨k + 1, _, _, _, rfl, by omega, ⟨blk_new w6 (.cells #[.int .i64 (k + 1)] 3)⟩, ⟨HM3.out.next ((Below.refl w6.heap.size w6).alloc (Nat.le_refl _) (.cells #[.int .i64 (k + 1)] 3))⟩, ⟨HO.out⟩⟩
        · have HO2 := Aside0.mk (HO.out.put hs b4 k)
          have hts : ts.getD s 0 = 0 := HO.out.zero s hs
          have hl20 := HO.out.len
          have hwm : (Lit.int .i64 me).wf = true := by simp [Lit.wf, IntKind.min, IntKind.max, IntKind.signed, IntKind.bits]; omega
          have hne := HM1.out.ne
          have hn9 : x9 ≠ w2.heap.size := by
            rintro rfl
            have e := H9.out.symm.trans HM1.out.ht
            have := congrArg (fun o : Option Obj => match o with | some (.cells c _ _) => c.size | _ => 0) e
            simp [tcells, hl20] at this
          have hn8 : x8 ≠ w2.heap.size := by
            rintro rfl
            have e := H8.out.symm.trans HM1.out.ht
            have := congrArg (fun o : Option Obj => match o with | some (.cells c _ _) => c.size | _ => 0) e
            simp [tcells, hl20] at this
          refine (once_new _ _ _ V me s 17 #[.pointer (some ⟨w2.heap.size + 1, 0, none⟩), .pointer (some ⟨x9, 0, none⟩), .pointer (some ⟨x8, 0, none⟩)] [(s : Int), (k : Int)] (fun b => b = w2.heap.size) (fun _ w2' => w2'.heap[w2.heap.size]? = some (.cells (tcells (ts.set s (ts.getD s 0 + 1))) 3 (0, 0))) wr1 HM1.out.tab hrt hs hwm (fun e => hne.2.2.1 e) (fun e => hne.1 e.symm) (fun q h e => h.1 e) (fun q e => by have := blk_lt HM1.out.ht; rw [e]; exact this) (fun h => h.2 rfl) (callFunc17 _) ?_).mono ?_
          · intro wq hB
            exact (do1_calls _ x9 x8 w2.heap.size s k ts wq (blk_below HM1.out.h7 hB) (blk_below H9.out hB) (blk_below H8.out hB) (blk_below HM1.out.ht hB) hl20 (by omega) (by omega) (by omega) hn9 hn8).mono (fun e wz ⟨A, q, e1, e2, e3, e4⟩ => ⟨A, q, e1, e2, e3, e4⟩)
          rintro e w4 ⟨v4, A4, wa, wb, rfl, hA, hT, hBa, hFb, hP, hFc⟩
          have z1 := blk_lt HM1.out.ht
          have z2 := HM1.out.lt
          have z3 : wr1.heap.size ≤ wa.heap.size := hBa.size
          have F : FrS (fun b => b = w2.heap.size ∨ b = w1.heap.size) wr1 w4 :=
            ⟨hFc.os.trans (hFb.os.trans hBa.os), hFc.tape.trans (hFb.tape.trans hBa.tape), hFc.output.trans (hFb.output.trans hBa.output), by have := hFc.size; have := hFb.size; omega, fun q hq hn =>
              (hFc.block q (by have := hFb.size; omega) (by omega)).trans ((hFb.block q (by omega) (by omega)).trans (hBa.block q hq))⟩
          have hx9 := HM1.out.tab.ne_bm H9.out
          have hx8 := HM1.out.tab.ne_bm H8.out
          have HM2 : Aside0 (Mem w w4 (w1.heap.size + 1) w1.heap.size (w2.heap.size + 1) w2.heap.size (aput me ((s : Int), [(s : Int), (k : Int)]) V) (ts.set s (ts.getD s 0 + 1))) :=
            ⟨F.blk HM1.out.h7 (by omega), hFc.blk hP (by omega), hT.weak (fun q h hq => by omega), HM1.out.new, hne, by have := F.size; omega, HM1.out.below.trans (F.to_below (fun q h => by have := HM1.out.new; omega) HM1.out.below.size)⟩
          replace H9 := Aside0.mk (F.blk H9.out (by omega))
          replace H8 := Aside0.mk (F.blk H8.out (by omega))
          have HS := Aside0.mk hs
          clear hs
          have HA4 := Aside0.mk hA
          clear HM1 HLT hA hT hBa hFb hP hFc F z1 z2 z3 hne hts hl20 hwm hn9 hn8 hx9 hx8
          have c9 : w4.cell? ⟨x9, 0, none⟩ = some (.int .i64 s) := (blk_cell H9.out 0).trans rfl
          go_wp2_with fail
          refine (once_same _ _ _ _ me s _ w4 HM2.out.tab hrt (by rw [lastV_put])).mono ?_
          rintro e w5 ⟨v5, A5, rfl, hA, hB⟩
          rw [lastV_put] at hA
          dsimp only at hA
          have HM3 := Aside0.mk (HM2.out.next hB)
          replace H9 := Aside0.mk (blk_below H9.out hB)
          replace H8 := Aside0.mk (blk_below H8.out hB)
          have hcv4 : ∀ n, (convert 26 9 v4).run Try.prog (w5.drewN n) = .ok (.string (strOfNums [(s : Int), (k : Int)])) (w5.drewN n) := fun n => HA4.out.str (fun k _ hk => hB.block k hk)
          have hcv5 : ∀ n, (convert 26 9 v5).run Try.prog (w5.drewN n) = .ok (.string (strOfNums [(s : Int), (k : Int)])) (w5.drewN n) := fun n => hA.str (fun k _ hk => rfl)
          generalize strOfNums [(s : Int), (k : Int)] = str at hcv4 hcv5
          obtain ⟨c4, rfl, hb4⟩ := HA4.out.ex
          obtain ⟨ad4, rfl, hr4⟩ := Kd.at_int (hb4.below hB).row 0 (by omega) (by simp)
          rw [show rd [(s : Int), (k : Int)] 0 = s from rfl] at hr4
          obtain ⟨c5, rfl, hb5⟩ := hA.ex
          simp only [Int.toNat_zero, List.length_cons, List.length_nil, Nat.zero_add, Nat.reduceAdd] at hr4 hcv4 hcv5 ⊢
          have hr5 : w5.cell? ad4 = some (.int .u8 s) := hr4
          clear HM2 hB c9 hA HA4 hb4 hb5
          have c9 : w5.cell? ⟨x9, 0, none⟩ = some (.int .i64 s) := (blk_cell H9.out 0).trans rfl
          have c8 : w5.cell? ⟨x8, 0, none⟩ = some (.int .i64 k) := (blk_cell H8.out 0).trans rfl
          have c7 : w5.cell? ⟨w2.heap.size + 1, 0, none⟩ = some (.slice (some ⟨w2.heap.size, 0, none⟩) 20 20) := (blk_cell HM3.out.h7 0).trans rfl
          have ct : w5.cell? ⟨w2.heap.size, s, none⟩ = some (.int .i64 ((ts.set s (ts.getD s 0 + 1)).getD s 0)) := (blk_cell HM3.out.ht s).trans (tcells_get _ s (by have := HO2.out.len; omega))
          have hle : decide (1 < (ts.set s (ts.getD s 0 + 1)).getD s 0) = false := by have := (HO2.out.le s).2; simp only [decide_eq_false_iff_not]; omega
          generalize (ts.set s (ts.getD s 0 + 1)).getD s 0 = tv at ct hle
          go_wp2_with fail
          go_quiet (fail)
          replace HM3 := Aside0.mk (HM3.out.next (pw_below_drewN (Below.refl _ _) nq))
          replace H8 := Aside0.mk (blk_drewN H8.out nq)
          clear c7 c8 c9 ct hle hcv4 hcv5 hr4 hr5
          generalize w5.drewN nq = w6 at HM3 H8 ⊢
          have c8 : w6.cell? ⟨x8, 0, none⟩ = some (.int .i64 k) := (blk_cell H8.out 0).trans rfl
          go_wp2_with fail
          go_roundg (gk - 1)
          case measure => omega
          case rel => exact ⟨k + 1, _, _, _, rfl, by omega, ⟨blk_new w6 (.cells #[.int .i64 (k + 1)] 3)⟩, ⟨HM3.out.next ((Below.refl w6.heap.size w6).alloc (Nat.le_refl _) (.cells #[.int .i64 (k + 1)] 3))⟩, ⟨HO2.out⟩⟩
      · go_wp2_with fail
        go_ret
        exact ⟨rfl, HM.out.below⟩

end Go.Proofs.Ytnkpleggmiamdaa.Se
