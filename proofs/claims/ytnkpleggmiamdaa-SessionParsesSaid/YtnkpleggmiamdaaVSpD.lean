/- Kept of the text SpD: what is reached (wip/tools/prune.py). -/
import Derived.Test.YtnkpleggmiamdaaVSpB
import Derived.Test.YtnkpleggmiamdaaVKeS
namespace Go.Proofs.Ytnkpleggmiamdaa.Sp
open Go.RowKit Go.Maps Go.Proofs.YtnkpleggmiamdaaW.PrintWords Go.Proofs.YtnkpleggmiamdaaW.PrintLast Go.Proofs.YtnkpleggmiamdaaW.PrintMore
open Go.Proofs.Ytnkpleggmiamdaa.PSessionParses (S105 z105 k105 rd_T105 at_T105 k105_mkM k105_mk info105)
open Go.Proofs.Ytnkpleggmiamdaa.Mo Go.Proofs.Ytnkpleggmiamdaa.Mp Go.Proofs.Ytnkpleggmiamdaa.Ke
open Go.Proofs.Ytnkpleggmiamdaa.Se (rightF Rec encR r0 Bs RecOk TabIs TableIs View view lastR)
set_option linter.unusedVariables false
set_option linter.unusedSimpArgs false
def knil : Kd Unit := Kd.scalar (fun _ => Value.slice none 0 0) (fun _ => rfl)
def kIn (w0 : World) : Kd (Int × List Int) := Kd.iso (Kd.pair (Kd.int .u64) (Kd.pair (Kd.fixed (Kd.slice 5 (Kd.int .u8)) w0) knil)) (fun q => (q.1, q.2, ()))
def kOut (w0 : World) : Kd Tr := Kd.iso (Kd.pair (Kd.int .u64) (Kd.pair knil (Kd.slice 105 (kIn w0)))) (fun p => (0, (), [(IntKind.u64.wrap p.1, []), (IntKind.u64.wrap p.2.1, []), (0, p.2.2)]))
theorem kIn_mk (w0 w : World) (base : Nat) (ok : Nat → Prop) (n : Int) (b : List Int) {A : Option Addr} {c : Nat} (hl : b.length ≤ c) (hC : (Kd.int .u8).C w0 A b.length b) : (kIn w0).M w base ok (n, b) [.int .u64 n, .slice A b.length c, .slice none 0 0] :=
  ⟨[.int .u64 n], [.slice A b.length c, .slice none 0 0], rfl, rfl, ⟨[.slice A b.length c], [.slice none 0 0], rfl, ⟨A, c, rfl, hl, hC⟩, rfl⟩⟩
theorem kIn_K {w0 w : World} (hb : Below w0.heap.size w0 w) {n : Int} {b : List Int} {cs : List Value} (h : (kIn w0).K w (n, b) cs) : k105.K w ⟨n, b, []⟩ cs := by
  obtain ⟨_, _, rfl, rfl, ⟨_, _, rfl, ⟨A, c, rfl, hl, hC⟩, rfl⟩⟩ := h
  exact k105_mk w ⟨n, b, []⟩ hl (Kd.C_below hC hb) (A2 := none) (c2 := 0) (Nat.le_refl _) (Kd.C_nil _ _)
theorem C_moveK {α : Type} {d : Kd α} {A : Option Addr} {n : Nat} {xs : List α} {w w1 : World} (h : d.C w A n xs) (hm : ∀ b, AtB A b → b < w.heap.size → w1.heap[b]? = w.heap[b]?) (hK : ∀ x cs, d.K w x cs → d.K w1 x cs) : d.C w1 A n xs := by
  refine ⟨h.1, h.2.1, fun hn => ?_⟩
  obtain ⟨ad, rfl, hc⟩ := h.2.2 hn
  refine ⟨ad, rfl, fun j p hp => ?_⟩
  obtain ⟨c, hl, hk, hcell⟩ := hc j p hp
  refine ⟨c, hl, hK _ _ hk, fun i u hu => ?_⟩
  have h1 := hcell i u hu
  have hlt := cell_lt h1
  rw [add_block] at hlt
  rw [← h1]
  exact World.cell?_of_block (w := w) (by rw [add_block]; exact hm _ (AtB.some ad) hlt)
theorem C_map {α β : Type} {d : Kd α} {d' : Kd β} {f : α → β} {A : Option Addr} {n : Nat} {xs : List α} {w : World} (h : d.C w A n xs) (hs : d'.sz = d.sz) (hK : ∀ x cs, d.K w x cs → d'.K w (f x) cs) : d'.C w A n (xs.map f) := by
  refine ⟨by rw [List.length_map]; exact h.1, h.2.1, fun hn => ?_⟩
  obtain ⟨ad, e, hc⟩ := h.2.2 hn
  refine ⟨ad, e, fun j p hp => ?_⟩
  rw [List.getElem?_map, Option.map_eq_some_iff] at hp
  obtain ⟨q, hq, rfl⟩ := hp
  obtain ⟨c, hl, hk, hcell⟩ := hc j q hq
  rw [hs]
  exact ⟨c, hl, hK _ _ hk, hcell⟩
theorem kOut_K {w0 w : World} (hb : Below w0.heap.size w0 w) {p : Tr} {cs : List Value} (h : (kOut w0).K w p cs) : k105.K w (rv p) cs := by
  obtain ⟨_, _, rfl, rfl, ⟨_, _, rfl, rfl, ⟨A, c, rfl, hl, hC⟩⟩⟩ := h
  have hC3 : k105.C w A 3 [numV p.1, numV p.2.1, ⟨0, p.2.2, []⟩] := C_map (d := kIn w0) (d' := k105) (f := fun q : Int × List Int => (⟨q.1, q.2, []⟩ : S105)) hC rfl (fun x cs hk => kIn_K hb hk)
  exact k105_mk w (rv p) (A1 := none) (c1 := 0) (Nat.le_refl _) (Kd.C_nil _ _) hl hC3
theorem lit3 (w0 W : World) (a b : Int) (bs : List Int) (At : Option Addr) (ct : Nat) (hl : bs.length ≤ ct) (hC : (Kd.int .u8).C w0 At bs.length bs) :
    (kIn w0).R 105 (W.alloc (.cells #[.int .u64 a, .slice none 0 0, .slice none 0 0, .int .u64 b, .slice none 0 0, .slice none 0 0, .int .u64 0, .slice At bs.length ct, .slice none 0 0] 105)) W.heap.size (fun k => k = W.heap.size) (.slice (some ⟨W.heap.size, 0, none⟩) 3 3) [(a, []), (b, []), (0, bs)] := by
  have hn : ∀ (ok : Nat → Prop) (n : Int), (kIn w0).M W W.heap.size ok (n, []) [.int .u64 n, .slice none 0 0, .slice none 0 0] := fun ok n => kIn_mk w0 W _ ok n [] (A := none) (c := 0) (Nat.le_refl _) (Kd.C_nil _ _)
  have hr : Reps ((kIn w0).M W W.heap.size (fun k => k = W.heap.size ∧ some k ≠ (Value.slice (some ⟨W.heap.size, 0, none⟩) 3 3).ownBlock)) 3 [((a, []) : Int × List Int), (b, []), (0, bs)] [.int .u64 a, .slice none 0 0, .slice none 0 0, .int .u64 b, .slice none 0 0, .slice none 0 0, .int .u64 0, .slice At bs.length ct, .slice none 0 0] := by
    have := Reps.snoc (Reps.snoc (Reps.snoc (Reps.none ((kIn w0).M W W.heap.size (fun k => k = W.heap.size ∧ some k ≠ (Value.slice (some ⟨W.heap.size, 0, none⟩) 3 3).ownBlock)) 3) (hn _ a) rfl) (hn _ b) rfl) (kIn_mk w0 W _ _ 0 bs hl hC) rfl
    simpa using this
  refine ⟨fun k hk => ?_, ?_⟩
  · simp [Value.ownBlock] at hk
    omega
  · have h := OwnRow.lit (e := 105) W W.heap.size hr (Nat.le_refl _) (by simp)
    exact h.imp_ (fun p c hp => Kd.M_below hp ((Below.refl _ _).alloc (Nat.le_refl _) _))
theorem kOut_mkM (w0 w : World) (base : Nat) (ok : Nat → Prop) (p : Tr) {v : Value} (h : (kIn w0).R 105 w base ok v [(IntKind.u64.wrap p.1, []), (IntKind.u64.wrap p.2.1, []), (0, p.2.2)]) : (kOut w0).M w base ok p [.int .u64 0, .slice none 0 0, v] :=
  ⟨[.int .u64 0], [.slice none 0 0, v], rfl, rfl, ⟨[.slice none 0 0], [v], rfl, rfl, ⟨v, rfl, h⟩⟩⟩
theorem fldS0 (s : Int) (A : Option Addr) (n c : Nat) (w : World) : (Instr.field 100 (.agg #[.int .i64 s, .slice A n c]) 0).run Try.prog w = .ok (.int .i64 s) w := by kernel_rfl
theorem fldS1 (s : Int) (A : Option Addr) (n c : Nat) (w : World) : (Instr.field 100 (.agg #[.int .i64 s, .slice A n c]) 1).run Try.prog w = .ok (.slice A n c) w := by kernel_rfl
theorem look_at {M : List (Int × Rec)} {rows : List Tr} (hv : view M = rows) (hg : goodF (-1) rows = true) {i : Nat} (h : i < rows.length) : (lastR M rows[i].1).seq = rows[i].2.1 ∧ (lastR M rows[i].1).ans = rows[i].2.2 := by
  have hk := (goodF_keys hg).2
  have h1 := Se.last_view hv rows[i].1
  have h2 : ∀ (l : List Tr), (l.map (·.1)).Pairwise (fun a b => a < b) → ∀ p ∈ l, Se.lastV l p.1 = p.2 := by
    intro l
    induction l with
    | nil => intro _ p hp; cases hp
    | cons q l ih =>
      intro hk p hp
      rw [List.map_cons, List.pairwise_cons] at hk
      unfold Se.lastV at ih ⊢
      rcases List.mem_cons.1 hp with rfl | hp
      · simp [alook]
      · have hne : q.1 ≠ p.1 := by
          have := hk.1 p.1 (List.mem_map_of_mem hp)
          omega
        simp only [alook]
        rw [if_neg hne]
        exact ih hk.2 p hp
  rw [h2 rows hk rows[i] (List.getElem_mem h)] at h1
  exact ⟨(congrArg Prod.fst h1).symm, (congrArg Prod.snd h1).symm⟩
theorem asc_rise {rows : List Tr} (hg : goodF (-1) rows = true) : asc (rows.map (·.1)) = rows.map (·.1) := by
  unfold asc
  exact List.mergeSort_of_pairwise ((goodF_keys hg).2.imp (fun h => by simp; omega))
set_option maxHeartbeats 8000000 in
set_option maxRecDepth 100000 in
theorem bytes_calls (ok : Nat → Prop) (p bm : Nat) (rows : List Tr) (w : World) (h : TableIs w ok p bm rows) (hg : goodF (-1) rows = true) (hl : rows.length ≤ 100000) (hf : (formS rows).length ≤ 140737488355328) :
    Calls Try.prog 25 #[.pointer (some ⟨p, 0, none⟩)] w fun e w' => ∃ A c, e = .returned (.slice A (formS rows).length c) ∧ (formS rows).length ≤ c ∧ (Kd.int .u8).C w' A (formS rows).length (formS rows) ∧ Below w.heap.size w w' := by
  obtain ⟨M, hv, T⟩ := h
  have HPV := Aside0.mk (put_val (goodF_right hg))
  have HAR := Aside0.mk (asc_rise hg)
  have HGR := Aside0.mk (goodF_right hg)
  have HLK := Aside0.mk (fun (i : Nat) (hi : i < rows.length) => look_at hv hg hi)
  have HKM : Aside0 (M.map (·.1) = rows.map (·.1)) := ⟨by rw [← hv]; simp [view, amap]⟩
  have HND : Aside0 ((rows.map (·.1)).Nodup) := ⟨(goodF_keys hg).2.imp (fun h => by omega)⟩
  have HF := Aside0.mk hf
  have HT := Aside0.mk T
  have hml : M.length = rows.length := by have := congrArg List.length HKM.out; simpa using this
  clear T hv hf hg
  obtain ⟨bv, hbv⟩ : ∃ bv, w.heap.size = bv := ⟨_, rfl⟩
  obtain ⟨w1, hw1⟩ : ∃ w1, w.alloc (.cells #[.int .u64 0, .slice none 0 0, .slice none 0 0] 105) = w1 := ⟨_, rfl⟩
  have HB1 : Aside0 (Below w.heap.size w w1) := ⟨by rw [← hw1]; exact (Below.refl _ _).alloc (Nat.le_refl _) _⟩
  have KV : Aside0 (w1.heap[bv]? = some (.cells #[.int .u64 0, .slice none 0 0, .slice none 0 0] 105 (0, 0))) := ⟨by rw [← hbv, ← hw1]; exact blk_new _ _⟩
  have HT1 := Aside0.mk (HT.out.below HB1.out)
  have HPW : Aside0 (p < bv ∧ bm < bv) := ⟨by rw [← hbv]; exact ⟨blk_lt HT.out.blk, HT.out.map.lt⟩⟩
  have p0 : w1.cell? ⟨p, 0, none⟩ = some (.map (some bm)) := (blk_cell HT1.out.blk 0).trans rfl
  go_enter Try.func25, Try.ntmps25
  go_wp2_with fail
  clear p0
  refine (keysS_calls (some bm) w1).mono ?_
  rintro e w2 ⟨rfl, hw2⟩
  have HB2 : Aside0 (Below w1.heap.size w1 w2) := ⟨by rw [hw2]; exact (Below.refl _ _).alloc (Nat.le_refl _) _⟩
  have HK : Aside0 (w2.heap[w1.heap.size]? = some (.cells #[.map (some bm)] 96 (0, 0))) := ⟨by rw [hw2]; exact blk_new _ _⟩
  have HT2 := Aside0.mk (HT1.out.below HB2.out)
  clear hw2
  go_wp2_with fail
  refine (sortedS_calls w1.heap.size bm (amap encR M) w2 HT2.out.map ((blk_cell HK.out 0).trans rfl) ?_ ?_ ?_).mono ?_
  · intro x hx
    obtain ⟨y, hy, rfl⟩ := List.mem_map.1 hx
    have hm : y.1 ∈ rows.map (·.1) := by rw [← HKM.out]; exact List.mem_map_of_mem hy
    obtain ⟨q, hq, e⟩ := List.mem_map.1 hm
    show (Lit.int .i64 y.1).wf = true
    rw [← e]
    exact rightF_wf (HGR.out q hq)
  · have e : (amap encR M).map (·.1) = M.map (·.1) := by simp [amap]
    rw [e, HKM.out]; exact HND.out
  · have e : (amap encR M).length = M.length := by simp [amap]
    rw [e, hml]; exact hl
  rintro e w3 ⟨u, rfl, hR, hB⟩
  have ek : (amap encR M).map (·.1) = rows.map (·.1) := by rw [← HKM.out]; simp [amap]
  rw [ek, HAR.out] at hR
  obtain ⟨A, c, rfl⟩ := Kd.R_slice hR
  have el : (rows.map (·.1)).length = rows.length := List.length_map _
  have HC := Aside0.mk (Kd.R_reads' hR).2.2
  have HNA : Aside0 (∀ k, AtB A k → k ≠ bv) := ⟨fun k hk => by have := (R_at_ge hR k hk).1; have := blk_lt KV.out; have := HB2.out.size; omega⟩
  rw [el] at HC ⊢
  have HB13 : Aside0 (Below w1.heap.size w1 w3) := ⟨HB2.out.trans (hB.mono HB2.out.size)⟩
  have HB3 : Aside0 (Below w.heap.size w w3) := ⟨HB1.out.trans (HB13.out.mono HB1.out.size)⟩
  have KV3 := Aside0.mk (blk_below KV.out HB13.out)
  obtain ⟨B, hBd⟩ : ∃ B, w3.heap.size = B := ⟨_, rfl⟩
  have HBV : Aside0 (bv < B ∧ w.heap.size ≤ bv) := ⟨by rw [← hBd]; exact blk_lt KV3.out, by omega⟩
  have HPB : Aside0 (p < B ∧ bm < B) := ⟨by have := HPW.out; have := HBV.out.1; omega⟩
  have HW3 : Aside0 (B ≤ w3.heap.size) := ⟨by omega⟩
  have HWB := Aside0.mk hBd
  have HBVW := Aside0.mk hbv
  have HOKB : Aside0 (∀ k, (fun k => k < w.heap.size) k → k < B) := ⟨fun k hk => by have h1 : k < w.heap.size := hk; have := HB3.out.size; omega⟩
  obtain ⟨ok, hok⟩ : ∃ ok : Nat → Prop, (fun k => k < w.heap.size) = ok := ⟨_, rfl⟩
  have HTW : Aside0 (TabIs w ok p bm M) := ⟨⟨HT.out.blk, HT.out.map, fun x hx => ⟨(HT.out.recs x hx).bs, fun k hk => ⟨by rw [← hok]; exact ((HT.out.recs x hx).own k hk).2, ((HT.out.recs x hx).own k hk).2⟩⟩⟩⟩
  have HT3 := Aside0.mk (HTW.out.below HB3.out)
  rw [hok] at HOKB
  have HNB : Aside0 (∀ k, ok k → k ≠ bv) := ⟨fun k hk e => by rw [← hok] at hk; have h1 : k < w.heap.size := hk; omega⟩
  clear hR hB hw1 ek el KV HT1 HT2 HT HB1 HB2 HK HAR hbv HKM HND HB13 hok
  go_wp2_with fail
  go_loopg [5, 15] rows.length (fun kq v5 v15 wr => ∃ (i : Nat) (u : Value), v15 = .int .i64 i ∧ i + kq = rows.length ∧ Aside0 (wr.heap[bv]? = some (.cells #[.int .u64 0, .slice none 0 0, u] 105 (0, 0))) ∧ Aside0 ((kOut w).R 105 wr B (fun k => B ≤ k) u (rows.take i)) ∧ Aside0 (Below w.heap.size w wr) ∧ Aside0 (B ≤ wr.heap.size) ∧ Aside0 (Fr1 w3 wr bv))
  case atStart => exact ⟨0, .slice none 0 0, rfl, by omega, KV3, ⟨Kd.R_nil _ _ _ _ _⟩, HB3, HW3, ⟨Fr1.refl _ _⟩⟩
  case round =>
    clear KV3 HB3 HW3
    obtain ⟨i, u, rfl, hi, KV, HR, HB, HW, HFR⟩ := hrel
    obtain ⟨Au, cu, rfl⟩ := Kd.R_slice HR.out
    have HLI : Aside0 ((rows.take i).length = i) := ⟨by simp; omega⟩
    rw [HLI.out] at KV HR
    by_cases hlt : i < rows.length
    · have hlt' : (i : Int) < (rows.length : Int) := by omega
      obtain ⟨ad, rfl, x0⟩ := Kd.at_int (C_moveK HC.out (fun b hb hlt => HFR.out.block b hlt (HNA.out b hb)) (fun x cs h => h)) i (by omega) hlt'
      have e1 : rd (rows.map (·.1)) (i : Int) = rows[i].1 := by simp [rd, hlt]
      rw [e1] at x0
      simp only [Int.toNat_natCast] at x0
      have HTK : Aside0 (rows.take (i + 1) = rows.take i ++ [rows[i]]) := ⟨List.take_succ_eq_append_getElem hlt⟩
      have HL2 : Aside0 ((rows.take (i + 1)).length = i + 1) := ⟨by simp; omega⟩
      obtain ⟨g1, g2⟩ := HLK.out i hlt
      obtain ⟨⟨c0, s0, b0⟩, hpp⟩ : ∃ q, rows[i] = q := ⟨_, rfl⟩
      rw [hpp] at x0 HTK g1 g2
      simp only at x0 g1 g2
      have HRC := Aside0.mk (HTW.out.last c0)
      obtain ⟨⟨s1, At, ct, b1⟩, hrc⟩ : ∃ r, lastR M c0 = r := ⟨_, rfl⟩
      rw [hrc] at g1 g2 HRC
      simp only at g1 g2
      subst g1
      subst g2
      have HTR : Aside0 (TabIs wr ok p bm M) := ⟨HT3.out.frS (S := fun k => k = bv) ⟨HFR.out.os, HFR.out.tape, HFR.out.output, HFR.out.size, HFR.out.block⟩ (by have := HPW.out; omega) (by have := HPW.out; omega) (fun k hk _ e => HNB.out k hk e) (fun k hk _ => hk)⟩
      have HLU : Aside0 (∀ W, TabIs W ok p bm M → (Instr.lookup 96 (.map (some bm)) (.int .i64 c0) false).run Try.prog W = .ok (.agg #[.int .i64 s1, .slice At b1.length ct]) W) := ⟨fun W hW => by
        have h := run_lookup Try.underlying96 Try.underlying3 (Se.zeroR W) hW.map c0 false
        rw [Se.look_R, hrc] at h
        simpa [encR] using h⟩
      have HD : Aside0 (Below wr.heap.size wr wr.drew) := ⟨(Below.refl _ _).drew⟩
      have HC2 : Aside0 (∀ w', Below wr.heap.size wr w' → w'.cell? ⟨bv, 2, none⟩ = some (.slice Au i cu) ∧ w'.cell? ⟨p, 0, none⟩ = some (.map (some bm)) ∧ (Instr.lookup 96 (.map (some bm)) (.int .i64 c0) false).run Try.prog w' = .ok (.agg #[.int .i64 s1, .slice At b1.length ct]) w') := ⟨fun w' hW => ⟨(blk_cell (blk_below KV.out hW) 2).trans rfl, (blk_cell (HTR.out.below hW).blk 0).trans rfl, HLU.out _ (HTR.out.below hW)⟩⟩
      have HGB : Aside0 (∀ k, (Value.slice Au i cu).ownBlock = some k → k < wr.heap.size) := ⟨fun k hk => Kd.R_lt HR.out k hk⟩
      obtain ⟨s0, hs0⟩ : ∃ s0, s1 = s0 := ⟨_, rfl⟩
      obtain ⟨b0, hb0⟩ : ∃ b0, b1 = b0 := ⟨_, rfl⟩
      rw [hs0, hb0] at HRC HTK HLU HC2
      have HLT3 : Aside0 ((kIn w).R 105 (wr.drew.alloc (Obj.cells #[.int .u64 (IntKind.u64.wrap c0), .slice none 0 0, .slice none 0 0, .int .u64 (IntKind.u64.wrap s0), .slice none 0 0, .slice none 0 0, .int .u64 0, .slice At b0.length ct, .slice none 0 0] 105)) wr.heap.size (fun k => k = wr.heap.size) (.slice (some ⟨wr.heap.size, 0, none⟩) 3 3) [(IntKind.u64.wrap c0, []), (IntKind.u64.wrap s0, []), (0, b0)]) := ⟨lit3 w wr.drew _ _ b0 At ct HRC.out.bs.cap HRC.out.bs.row⟩
      have hf0 := fldS0
      have hf1 := fldS1
      clear e1 hpp hrc hs0 hb0
      go_upto_region 5 with fail
      refine start_ (n := 28) (S := fun w' => w'.cell? ⟨bv, 2, none⟩ = some (.slice Au i cu) ∧ w'.cell? ⟨p, 0, none⟩ = some (.map (some bm)) ∧ (Instr.lookup 96 (.map (some bm)) (.int .i64 c0) false).run Try.prog w' = .ok (.agg #[.int .i64 s0, .slice At b0.length ct]) w') (ds := [27]) #[false, false, false, false, false, false, false, false, false, false, false, false, false, false, false, false, false, false, false, false, false, false, false, false, false, false, false, false] (by kernel_rfl) rfl rfl (HC2.out _ HD.out) (fun hHeld => ?_)
      refine pure_ (i := 0) (N := some 19) (v := ?_) (a' := ?_) #[true, false, false, false, false, false, false, false, false, false, false, false, false, false, false, false, false, false, false, false, false, false, false, false, false, false, false, false] rfl rfl (by kernel_rfl) (fun _ _ _ h => h) (Or.inl ⟨by rfl, ?_⟩) ?_ ?_
      rotate_left
      · intro w'
        go_simp
        with_reducible rfl
      rotate_left
      · simp only [Act.put, List.setIfInBounds_toArray, List.set_cons_zero, List.set_cons_succ, i64_w, i32_w]
        rfl
      refine pure_ (i := 2) (N := some 21) (v := ?_) (a' := ?_) #[true, false, true, false, false, false, false, false, false, false, false, false, false, false, false, false, false, false, false, false, false, false, false, false, false, false, false, false] rfl rfl (by kernel_rfl) (fun _ _ _ h => h) (Or.inl ⟨by rfl, ?_⟩) ?_ ?_
      rotate_left
      · intro w'
        go_simp
        with_reducible rfl
      rotate_left
      · simp only [Act.put, List.setIfInBounds_toArray, List.set_cons_zero, List.set_cons_succ, i64_w, i32_w]
        rfl
      refine pure_ (i := 3) (N := some 22) (v := ?_) (a' := ?_) #[true, false, true, true, false, false, false, false, false, false, false, false, false, false, false, false, false, false, false, false, false, false, false, false, false, false, false, false] rfl rfl (by kernel_rfl) (fun _ _ _ h => h) (Or.inl ⟨by rfl, ?_⟩) ?_ ?_
      rotate_left
      · intro w'
        go_simp
        with_reducible rfl
      rotate_left
      · simp only [Act.put, List.setIfInBounds_toArray, List.set_cons_zero, List.set_cons_succ, i64_w, i32_w]
        rfl
      refine pure_ (i := 4) (N := some 23) (v := ?_) (a' := ?_) #[true, false, true, true, true, false, false, false, false, false, false, false, false, false, false, false, false, false, false, false, false, false, false, false, false, false, false, false] rfl rfl (by kernel_rfl) (fun _ _ _ h => h) (Or.inl ⟨by rfl, ?_⟩) ?_ ?_
      rotate_left
      · intro w'
        go_simp
        with_reducible rfl
      rotate_left
      · simp only [Act.put, List.setIfInBounds_toArray, List.set_cons_zero, List.set_cons_succ, i64_w, i32_w]
        rfl
      refine pure_ (i := 5) (N := some 24) (v := ?_) (a' := ?_) #[true, false, true, true, true, true, false, false, false, false, false, false, false, false, false, false, false, false, false, false, false, false, false, false, false, false, false, false] rfl rfl (by kernel_rfl) (fun _ _ _ h => h) (Or.inl ⟨by rfl, ?_⟩) ?_ ?_
      rotate_left
      · intro w'
        go_simp
        with_reducible rfl
      rotate_left
      · simp only [Act.put, List.setIfInBounds_toArray, List.set_cons_zero, List.set_cons_succ, i64_w, i32_w]
        rfl
      refine pure_ (i := 6) (N := some 25) (v := ?_) (a' := ?_) #[true, false, true, true, true, true, true, false, false, false, false, false, false, false, false, false, false, false, false, false, false, false, false, false, false, false, false, false] rfl rfl (by kernel_rfl) (fun _ _ _ h => h) (Or.inl ⟨by rfl, ?_⟩) ?_ ?_
      rotate_left
      · intro w'
        go_simp
        with_reducible rfl
      rotate_left
      · simp only [Act.put, List.setIfInBounds_toArray, List.set_cons_zero, List.set_cons_succ, i64_w, i32_w]
        rfl
      refine pure_ (i := 7) (N := some 26) (v := ?_) (a' := ?_) #[true, false, true, true, true, true, true, true, false, false, false, false, false, false, false, false, false, false, false, false, false, false, false, false, false, false, false, false] rfl rfl (by kernel_rfl) (fun _ _ _ h => h) (Or.inl ⟨by rfl, ?_⟩) ?_ ?_
      rotate_left
      · intro w'
        go_simp
        with_reducible rfl
      rotate_left
      · simp only [Act.put, List.setIfInBounds_toArray, List.set_cons_zero, List.set_cons_succ, i64_w, i32_w]
        rfl
      refine pure_ (i := 9) (N := some 28) (v := ?_) (a' := ?_) #[true, false, true, true, true, true, true, true, false, true, false, false, false, false, false, false, false, false, false, false, false, false, false, false, false, false, false, false] rfl rfl (by kernel_rfl) (fun _ _ _ h => h) (Or.inl ⟨by rfl, ?_⟩) ?_ ?_
      rotate_left
      · intro w'
        go_simp
        with_reducible rfl
      rotate_left
      · simp only [Act.put, List.setIfInBounds_toArray, List.set_cons_zero, List.set_cons_succ, i64_w, i32_w]
        rfl
      refine pure_ (i := 14) (N := some 33) (v := ?_) (a' := ?_) #[true, false, true, true, true, true, true, true, false, true, false, false, false, false, true, false, false, false, false, false, false, false, false, false, false, false, false, false] rfl rfl (by kernel_rfl) (fun _ _ _ h => h) (Or.inl ⟨by rfl, ?_⟩) ?_ ?_
      rotate_left
      · intro w'
        go_simp
        with_reducible rfl
      rotate_left
      · simp only [Act.put, List.setIfInBounds_toArray, List.set_cons_zero, List.set_cons_succ, i64_w, i32_w]
        rfl
      refine pure_ (i := 15) (N := some 34) (v := ?_) (a' := ?_) #[true, false, true, true, true, true, true, true, false, true, false, false, false, false, true, true, false, false, false, false, false, false, false, false, false, false, false, false] rfl rfl (by kernel_rfl) (fun _ _ _ h => h) (Or.inl ⟨by rfl, ?_⟩) ?_ ?_
      rotate_left
      · intro w'
        go_simp
        with_reducible rfl
      rotate_left
      · simp only [Act.put, List.setIfInBounds_toArray, List.set_cons_zero, List.set_cons_succ, i64_w, i32_w]
        rfl
      refine pure_ (i := 16) (N := some 35) (v := ?_) (a' := ?_) #[true, false, true, true, true, true, true, true, false, true, false, false, false, false, true, true, true, false, false, false, false, false, false, false, false, false, false, false] rfl rfl (by kernel_rfl) (fun _ _ _ h => h) (Or.inl ⟨by rfl, ?_⟩) ?_ ?_
      rotate_left
      · intro w'
        go_simp
        with_reducible rfl
      rotate_left
      · simp only [Act.put, List.setIfInBounds_toArray, List.set_cons_zero, List.set_cons_succ, i64_w, i32_w]
        rfl
      refine pure_ (i := 18) (N := some 37) (v := ?_) (a' := ?_) #[true, false, true, true, true, true, true, true, false, true, false, false, false, false, true, true, true, false, true, false, false, false, false, false, false, false, false, false] rfl rfl (by kernel_rfl) (fun _ _ _ h => h) (Or.inl ⟨by rfl, ?_⟩) ?_ ?_
      rotate_left
      · intro w'
        go_simp
        with_reducible rfl
      rotate_left
      · simp only [Act.put, List.setIfInBounds_toArray, List.set_cons_zero, List.set_cons_succ, i64_w, i32_w]
        rfl
      refine take_ (i := 1) (N := some 20) (v := ?_) (a' := ?_) #[true, true, true, true, true, true, true, true, false, true, false, false, false, false, true, true, true, false, true, false, false, false, false, false, false, false, false, false] rfl rfl (by kernel_rfl) (fun _ _ _ h => h) (Or.inl ⟨by rfl, ?_⟩) hHeld ?_ ?_
      rotate_left
      · rintro w' ⟨s0, s1, s2⟩
        go_simp
        with_reducible rfl
      rotate_left
      · simp only [Act.put, List.setIfInBounds_toArray, List.set_cons_zero, List.set_cons_succ, i64_w, i32_w]
        rfl
      refine take_ (i := 8) (N := some 27) (v := ?_) (a' := ?_) #[true, true, true, true, true, true, true, true, true, true, false, false, false, false, true, true, true, false, true, false, false, false, false, false, false, false, false, false] rfl rfl (by kernel_rfl) (fun _ _ _ h => h) (Or.inl ⟨by rfl, ?_⟩) hHeld ?_ ?_
      rotate_left
      · rintro w' ⟨s0, s1, s2⟩
        go_simp
        with_reducible rfl
      rotate_left
      · simp only [Act.put, List.setIfInBounds_toArray, List.set_cons_zero, List.set_cons_succ, i64_w, i32_w]
        rfl
      refine take_ (i := 10) (N := some 29) (v := ?_) (a' := ?_) #[true, true, true, true, true, true, true, true, true, true, true, false, false, false, true, true, true, false, true, false, false, false, false, false, false, false, false, false] rfl rfl (by kernel_rfl) (fun _ _ _ h => h) (Or.inl ⟨by rfl, ?_⟩) hHeld ?_ ?_
      rotate_left
      · rintro w' ⟨s0, s1, s2⟩
        go_simp
        with_reducible rfl
      rotate_left
      · simp only [Act.put, List.setIfInBounds_toArray, List.set_cons_zero, List.set_cons_succ, i64_w, i32_w]
        rfl
      refine pure_ (i := 11) (N := some 30) (v := ?_) (a' := ?_) #[true, true, true, true, true, true, true, true, true, true, true, true, false, false, true, true, true, false, true, false, false, false, false, false, false, false, false, false] rfl rfl (by kernel_rfl) (fun _ _ _ h => h) (Or.inl ⟨by rfl, ?_⟩) ?_ ?_
      rotate_left
      · intro w'
        go_simp
        with_reducible rfl
      rotate_left
      · simp only [Act.put, List.setIfInBounds_toArray, List.set_cons_zero, List.set_cons_succ, i64_w, i32_w]
        rfl
      refine pure_ (i := 12) (N := some 31) (v := ?_) (a' := ?_) #[true, true, true, true, true, true, true, true, true, true, true, true, true, false, true, true, true, false, true, false, false, false, false, false, false, false, false, false] rfl rfl (by kernel_rfl) (fun _ _ _ h => h) (Or.inl ⟨by rfl, ?_⟩) ?_ ?_
      rotate_left
      · intro w'
        go_simp
        with_reducible rfl
      rotate_left
      · simp only [Act.put, List.setIfInBounds_toArray, List.set_cons_zero, List.set_cons_succ, i64_w, i32_w]
        rfl
      refine pure_ (i := 13) (N := some 32) (v := ?_) (a' := ?_) #[true, true, true, true, true, true, true, true, true, true, true, true, true, true, true, true, true, false, true, false, false, false, false, false, false, false, false, false] rfl rfl (by kernel_rfl) (fun _ _ _ h => h) (Or.inl ⟨by rfl, ?_⟩) ?_ ?_
      rotate_left
      · intro w'
        go_simp
        with_reducible rfl
      rotate_left
      · simp only [Act.put, List.setIfInBounds_toArray, List.set_cons_zero, List.set_cons_succ, i64_w, i32_w]
        rfl
      refine take_ (i := 17) (N := some 36) (v := ?_) (a' := ?_) #[true, true, true, true, true, true, true, true, true, true, true, true, true, true, true, true, true, true, true, false, false, false, false, false, false, false, false, false] rfl rfl (by kernel_rfl) (fun _ _ _ h => h) (Or.inl ⟨by rfl, ?_⟩) hHeld ?_ ?_
      rotate_left
      · rintro w' ⟨s0, s1, s2⟩
        go_simp
        with_reducible rfl
      rotate_left
      · simp only [Act.put, List.setIfInBounds_toArray, List.set_cons_zero, List.set_cons_succ, i64_w, i32_w]
        rfl
      refine take_ (i := 19) (N := some 38) (v := ?_) (a' := ?_) #[true, true, true, true, true, true, true, true, true, true, true, true, true, true, true, true, true, true, true, true, false, false, false, false, false, false, false, false] rfl rfl (by kernel_rfl) (fun _ _ _ h => h) (Or.inl ⟨by rfl, ?_⟩) hHeld ?_ ?_
      rotate_left
      · rintro w' ⟨s0, s1, s2⟩
        go_simp
        with_reducible rfl
      rotate_left
      · simp only [Act.put, List.setIfInBounds_toArray, List.set_cons_zero, List.set_cons_succ, i64_w, i32_w]
        rfl
      refine pure_ (i := 20) (N := some 39) (v := ?_) (a' := ?_) #[true, true, true, true, true, true, true, true, true, true, true, true, true, true, true, true, true, true, true, true, true, false, false, false, false, false, false, false] rfl rfl (by kernel_rfl) (fun _ _ _ h => h) (Or.inl ⟨by rfl, ?_⟩) ?_ ?_
      rotate_left
      · intro w'
        go_simp
        with_reducible rfl
      rotate_left
      · simp only [Act.put, List.setIfInBounds_toArray, List.set_cons_zero, List.set_cons_succ, i64_w, i32_w]
        rfl
      refine pure_ (i := 21) (N := some 40) (v := ?_) (a' := ?_) #[true, true, true, true, true, true, true, true, true, true, true, true, true, true, true, true, true, true, true, true, true, true, false, false, false, false, false, false] rfl rfl (by kernel_rfl) (fun _ _ _ h => h) (Or.inl ⟨by rfl, ?_⟩) ?_ ?_
      rotate_left
      · intro w'
        go_simp
        with_reducible rfl
      rotate_left
      · simp only [Act.put, List.setIfInBounds_toArray, List.set_cons_zero, List.set_cons_succ, i64_w, i32_w]
        rfl
      refine one_ (i := 22) (N := some 41) #[true, true, true, true, true, true, true, true, true, true, true, true, true, true, true, true, true, true, true, true, true, true, true, false, false, false, false, false] rfl rfl (by kernel_rfl) (by decide) (fun K hK => ?_)
      refine value_ (w1 := ?_) (v := ?_) (by rfl) rfl ?_ ?_
      rotate_left 2
      · go_simp
        constructor
        · rfl
        · rfl
      have HD2 : Aside0 (Below wr.heap.size wr (wr.drew.alloc (Obj.cells #[.int .u64 (IntKind.u64.wrap c0), .slice none 0 0, .slice none 0 0, .int .u64 (IntKind.u64.wrap s0), .slice none 0 0, .slice none 0 0, .int .u64 0, .slice At b0.length ct, .slice none 0 0] 105))) := ⟨HD.out.trans ((Below.refl _ wr.drew).alloc (Nat.le_refl _) _)⟩
      refine hK.out _ _ (HC2.out _ HD2.out) (fun hHeld => ?_)
      clear hK K
      refine norm_ (a' := ?_) ?_ ?_
      rotate_left
      · show Act.put _ (some 41) _ = _
        simp only [Act.put, List.setIfInBounds_toArray, List.set_cons_zero, List.set_cons_succ, i64_w, i32_w]
        rfl
      refine pure_ (i := 23) (N := some 42) (v := ?_) (a' := ?_) #[true, true, true, true, true, true, true, true, true, true, true, true, true, true, true, true, true, true, true, true, true, true, true, true, false, false, false, false] rfl rfl (by kernel_rfl) (fun _ _ _ h => h) (Or.inl ⟨by rfl, ?_⟩) ?_ ?_
      rotate_left
      · intro w'
        go_simp
        with_reducible rfl
      rotate_left
      · simp only [Act.put, List.setIfInBounds_toArray, List.set_cons_zero, List.set_cons_succ, i64_w, i32_w]
        rfl
      refine one_ (i := 24) (N := some 43) #[true, true, true, true, true, true, true, true, true, true, true, true, true, true, true, true, true, true, true, true, true, true, true, true, true, false, false, false] rfl rfl (by kernel_rfl) (by decide) (fun K hK => ?_)
      refine value_ (w1 := ?_) (v := ?_) (by rfl) rfl ?_ ?_
      rotate_left 2
      · go_simp
        constructor
        · rfl
        · rfl
      have HD3 : Aside0 (Below wr.heap.size wr ((wr.drew.alloc (Obj.cells #[.int .u64 (IntKind.u64.wrap c0), .slice none 0 0, .slice none 0 0, .int .u64 (IntKind.u64.wrap s0), .slice none 0 0, .slice none 0 0, .int .u64 0, .slice At b0.length ct, .slice none 0 0] 105)).alloc (Obj.cells #[.int .u64 0, .slice none 0 0, .slice (some ⟨wr.heap.size, 0, none⟩) 3 3] 105))) := ⟨HD2.out.trans (((Below.refl _ (wr.drew.alloc (Obj.cells #[.int .u64 (IntKind.u64.wrap c0), .slice none 0 0, .slice none 0 0, .int .u64 (IntKind.u64.wrap s0), .slice none 0 0, .slice none 0 0, .int .u64 0, .slice At b0.length ct, .slice none 0 0] 105))).alloc (Nat.le_refl _) _).mono HD2.out.size)⟩
      refine hK.out _ _ (HC2.out _ HD3.out) (fun hHeld => ?_)
      clear hK K
      refine norm_ (a' := ?_) ?_ ?_
      rotate_left
      · show Act.put _ (some 43) _ = _
        simp only [Act.put, List.setIfInBounds_toArray, List.set_cons_zero, List.set_cons_succ, i64_w, i32_w]
        rfl
      refine one_ (i := 25) (N := some 44) #[true, true, true, true, true, true, true, true, true, true, true, true, true, true, true, true, true, true, true, true, true, true, true, true, true, true, false, false] rfl rfl (by kernel_rfl) (by decide) (fun K hK => ?_)
      refine Kd.R_append_step (kOut w) (w0 := wr.drew.alloc (Obj.cells #[.int .u64 (IntKind.u64.wrap c0), .slice none 0 0, .slice none 0 0, .int .u64 (IntKind.u64.wrap s0), .slice none 0 0, .slice none 0 0, .int .u64 0, .slice At b0.length ct, .slice none 0 0] 105)) (W := wr.drew.alloc (Obj.cells #[.int .u64 (IntKind.u64.wrap c0), .slice none 0 0, .slice none 0 0, .int .u64 (IntKind.u64.wrap s0), .slice none 0 0, .slice none 0 0, .int .u64 0, .slice At b0.length ct, .slice none 0 0] 105)) B (by rfl) (.tmp 20) (.tmp 43) 103 105 (.agg #[.int .u64 0, .slice none 0 0, .slice none 0 0]) 56 rfl Try.underlying103 info105 rfl (show (0 : Nat) < 3 by decide) (by decide) (.slice Au i cu) (rows.take i) (c0, s0, b0) [.int .u64 0, .slice none 0 0, .slice (some ⟨wr.heap.size, 0, none⟩) 3 3] (fun k => B ≤ k) (fun k => k = wr.heap.size) (by rfl) (by show Value.slice (some ⟨wr.heap.size + 1, 0, none⟩) 1 1 = _; rw [show (wr.drew.alloc (Obj.cells #[.int .u64 (IntKind.u64.wrap c0), .slice none 0 0, .slice none 0 0, .int .u64 (IntKind.u64.wrap s0), .slice none 0 0, .slice none 0 0, .int .u64 0, .slice At b0.length ct, .slice none 0 0] 105)).heap.size = wr.heap.size + 1 from World.size_alloc _ _]) (kOut_mkM w _ _ _ (c0, s0, b0) (Kd.R_lower HLT3.out HW.out)) (fun k hk => ⟨by rw [hk]; exact HW.out, fun e => by have := HGB.out k e.symm; omega⟩) (fun k hk => Nat.le_trans (Nat.le_trans HW.out HD2.out.size) hk) (Kd.R_below HR.out HD2.out) (Below.refl _ _) (Nat.le_trans HW.out HD2.out.size) (by rw [HLI.out]; omega) ?_
      intro v9 w9 hr9 hb9 hg9 hat9
      obtain ⟨A9, c9, rfl⟩ := Kd.R_slice hr9
      rw [← HTK.out] at hr9 ⊢
      rw [HL2.out] at hr9 ⊢
      have HR9 := Aside0.mk hr9
      have HG9 : Aside0 (wr.grownBy w9 (Value.slice Au i cu).ownBlock) := ⟨World.grownBy.trans (grown_of_below HD2.out _) hg9⟩
      have KV9 := Aside0.mk (blk_grown KV.out HG9.out (fun e => by have h := Kd.R_base HR.out _ e.symm; have := HBV.out.1; omega))
      have HT9 : Aside0 (TabIs w9 ok p bm M) := ⟨HTR.out.frS (S := fun k => (Value.slice Au i cu).ownBlock = some k) ⟨HG9.out.os, HG9.out.tape, HG9.out.output, HG9.out.size, fun k hk hne => HG9.out.block k hk (fun e => hne e.symm)⟩ (fun e => by have h := Kd.R_base HR.out _ e; have := HPB.out.1; omega) (fun e => by have h := Kd.R_base HR.out _ e; have := HPB.out.2; omega) (fun k hk hlt e => by have h := Kd.R_base HR.out _ e; have := HOKB.out k hk; omega) (fun k hk _ => hk)⟩
      clear hr9 hb9 hg9 hat9
      refine hK.out _ _ (⟨(blk_cell KV9.out 2).trans rfl, (blk_cell HT9.out.blk 0).trans rfl, HLU.out _ HT9.out⟩) (fun hHeld => ?_)
      clear hK K
      refine norm_ (a' := ?_) ?_ ?_
      rotate_left
      · show Act.put _ (some 44) _ = _
        simp only [Act.put, List.setIfInBounds_toArray, List.set_cons_zero, List.set_cons_succ, i64_w, i32_w]
        rfl
      refine pure_ (i := 26) (N := some 45) (v := ?_) (a' := ?_) #[true, true, true, true, true, true, true, true, true, true, true, true, true, true, true, true, true, true, true, true, true, true, true, true, true, true, true, false] rfl rfl (by kernel_rfl) (fun _ _ _ h => h) (Or.inl ⟨by rfl, ?_⟩) ?_ ?_
      rotate_left
      · intro w'
        go_simp
        with_reducible rfl
      rotate_left
      · simp only [Act.put, List.setIfInBounds_toArray, List.set_cons_zero, List.set_cons_succ, i64_w, i32_w]
        rfl
      refine last_ (i := 27) (N := none) #[true, true, true, true, true, true, true, true, true, true, true, true, true, true, true, true, true, true, true, true, true, true, true, true, true, true, true, true] rfl rfl (by kernel_rfl) (by decide) (fun K hK => ?_)
      have hq9 := (blk_cell KV9.out 2).trans (show _ = some (Value.slice Au i cu) from rfl)
      have hf9 := blk_frozen KV9.out 2
      refine skip_ (w1 := ?_) (by rfl) rfl ?_ ?_
      rotate_left
      · go_simp
        rfl
      clear hq9 hf9
      refine hK.out _ _ ?_
      clear hK K
      refine done_ (by kernel_rfl) ?_
      clear hHeld HC2 HD HD2 HD3 hf0 hf1
      have KVn : Aside0 ((w9.setCell ⟨bv, 2, none⟩ (.slice A9 (i + 1) c9)).heap[bv]? = some (.cells #[.int .u64 0, .slice none 0 0, .slice A9 (i + 1) c9] 105 (0, 0))) := ⟨blk_put (cs := #[.int .u64 0, .slice none 0 0, .slice Au i cu]) KV9.out 2 _ rfl⟩
      have HRn : Aside0 ((kOut w).R 105 (w9.setCell ⟨bv, 2, none⟩ (.slice A9 (i + 1) c9)) B (fun k => B ≤ k) (.slice A9 (i + 1) c9) (rows.take (i + 1))) := ⟨Kd.R_step HR9.out (fun k hk _ => Below.heap_setCell w9 ⟨bv, 2, none⟩ _ k (by have h1 : B ≤ k := hk; have := HBV.out.1; show k ≠ bv; omega))⟩
      have hb0 : ∀ k, (Value.slice Au i cu).ownBlock = some k → B ≤ k := fun k hk => Kd.R_base HR.out k hk
      have HBn : Aside0 (Below w.heap.size w (w9.setCell ⟨bv, 2, none⟩ (.slice A9 (i + 1) c9))) := ⟨(pw_below_grown HB.out _ HB.out.size HG9.out (fun k hk => by have := hb0 k hk; have := HBV.out; omega)).setCell (p := ⟨bv, 2, none⟩) HBV.out.2 _⟩
      have HWn : Aside0 (B ≤ (w9.setCell ⟨bv, 2, none⟩ (.slice A9 (i + 1) c9)).heap.size) := ⟨by have := HG9.out.size; have := HW.out; simp [World.setCell]; omega⟩
      have HFn : Aside0 (Fr1 w3 (w9.setCell ⟨bv, 2, none⟩ (.slice A9 (i + 1) c9)) bv) := ⟨Fr1.set ⟨HG9.out.os.trans HFR.out.os, HG9.out.tape.trans HFR.out.tape, HG9.out.output.trans HFR.out.output, Nat.le_trans HFR.out.size HG9.out.size, fun k hk hne => (HG9.out.block k (Nat.lt_of_lt_of_le hk HFR.out.size) (fun e => by have := hb0 k e.symm; have := HWB.out; omega)).trans (HFR.out.block k hk hne)⟩ 2 _⟩
      clear KV9 HR9 HG9 HT9 hb0 HR HB HW HFR KV x0 HTR HLU HGB HLT3 HRC
      generalize w9.setCell ⟨bv, 2, none⟩ (.slice A9 (i + 1) c9) = w10 at *
      go_wp2_with fail
      go_roundg (rows.length - (i + 1))
      case measure => omega
      case rel => exact ⟨i + 1, .slice A9 (i + 1) c9, by go_num, by omega, KVn, HRn, HBn, HWn, HFn⟩
    · obtain rfl : i = rows.length := by omega
      have hge : ¬ ((rows.length : Int) < (rows.length : Int)) := by omega
      have e : rows.take rows.length = rows := List.take_of_length_le (Nat.le_refl _)
      rw [e] at HR
      have HRC := Aside0.mk (Kd.R_reads' HR.out)
      clear HR HLI e
      have hrl : (rows.map rv).length = rows.length := List.length_map _
      have HPUT : Aside0 (Calls Try.prog 64 #[.string ⟨#[42, 91, 110, 110, 98, 93]⟩, .slice (some ⟨wr.heap.size, 0, none⟩) 1 1] (wr.alloc (.cells #[.int .u64 0, .slice none 0 0, .slice Au rows.length cu] 105)) (PutTopQ shS [valS rows] (wr.alloc (.cells #[.int .u64 0, .slice none 0 0, .slice Au rows.length cu] 105)))) := ⟨by
        have hC1 : k105.C wr Au rows.length (rows.map rv) := C_map (d := kOut w) (d' := k105) (f := rv) HRC.out.2.2 rfl (fun x cs hk => kOut_K HB.out hk)
        have hK := k105_mk wr (valS rows) (A1 := none) (c1 := 0) (Nat.le_refl _) (Kd.C_nil _ _) (A2 := Au) (c2 := cu) (by show (rows.map rv).length ≤ cu; rw [hrl]; exact HRC.out.2.1) (by show k105.C wr Au (rows.map rv).length (rows.map rv); rw [hrl]; exact hC1)
        have hC3 := C33_new wr [valS rows] _ (reps33 hK) (by simp)
        have e3 : (valS rows).f2.length = rows.length := hrl
        rw [e3] at hC3
        refine Put_calls shS [valS rows] (some ⟨wr.heap.size, 0, none⟩) 1 _ hC3 (Nat.le_refl _) (fun v hv => ?_) (fun k hk => ?_)
        · rw [List.mem_singleton.1 hv]; exact wf_val rows
        · rw [p_se] at hk
          cases hk
          simp only [List.map_cons, List.map_nil, List.flatten_cons, List.flatten_nil, List.append_nil]
          rw [HPV.out]
          exact HF.out⟩
      have kv0 : wr.cell? ⟨bv, 0, none⟩ = some (.int .u64 0) := (blk_cell KV.out 0).trans rfl
      have kv1 : wr.cell? ⟨bv, 1, none⟩ = some (.slice none 0 0) := (blk_cell KV.out 1).trans rfl
      have kv2 : wr.cell? ⟨bv, 2, none⟩ = some (.slice Au rows.length cu) := (blk_cell KV.out 2).trans rfl
      have HBA : Aside0 (Below wr.heap.size wr (wr.alloc (.cells #[.int .u64 0, .slice none 0 0, .slice Au rows.length cu] 105))) := ⟨(Below.refl _ _).alloc (Nat.le_refl _) _⟩
      go_wp2_with fail
      refine HPUT.out.mono ?_
      rintro e w7 hq
      obtain ⟨hB, A7, c7, rfl, hc7, hC7⟩ := put_ok hq p_se (by rw [List.all_cons, has_val]; rfl) (by simp only [List.map_cons, List.map_nil, List.flatten_cons, List.flatten_nil, List.append_nil]; exact HPV.out)
      have HB7 := Aside0.mk (HBA.out.trans (hB.mono HBA.out.size))
      have HC7 := Aside0.mk (And.intro hc7 hC7)
      clear hq hB hc7 hC7 HPUT HBA kv0 kv1 kv2
      go_wp2_with fail
      go_ret
      exact ⟨A7, c7, rfl, HC7.out.1, HC7.out.2, HB.out.trans (HB7.out.mono HB.out.size)⟩
end Go.Proofs.Ytnkpleggmiamdaa.Sp
