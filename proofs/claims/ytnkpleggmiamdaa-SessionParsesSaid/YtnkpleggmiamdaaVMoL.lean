/- Kept of the text MoL: what is reached (wip/tools/prune.py). -/
import Derived.Test.YtnkpleggmiamdaaVMoK
import Derived.StillTailTactics
import Derived.Deep.DeepCutAuto
import Derived.Deep.RegionLaw
namespace Go.Proofs.Ytnkpleggmiamdaa.Mo
open Go.RowKit Go.Maps Go.Proofs.YtnkpleggmiamdaaW.PrintWords Go.Proofs.YtnkpleggmiamdaaW.PrintLast Go.Proofs.YtnkpleggmiamdaaW.PrintMore
open Go.Proofs.Ytnkpleggmiamdaa.PSessionParses Go.Proofs.Ytnkpleggmiamdaa.Mp
set_option linter.unusedVariables false
set_option linter.unusedSimpArgs false
def str (l : List UInt8) : ByteArray := ⟨l.toArray⟩
def RdIs (w : World) (gr : Nat) (l : List UInt8) (bad : Bool) : Prop := w.heap[gr]? = some (.cells #[.string (str l), .bool bad] 153 (0, 0))
theorem str_nil : (str []).toList.isEmpty = true := by decide +kernel
theorem loop_ne (b : ByteArray) : ∀ (n i : Nat) (r : List UInt8), b.size - i ≤ n → r ≠ [] → ByteArray.toList.loop b i r ≠ []
  | 0, i, r, h, hr => by
    unfold ByteArray.toList.loop
    rw [if_neg (by omega)]
    simpa using hr
  | n + 1, i, r, h, hr => by
    unfold ByteArray.toList.loop
    split
    · exact loop_ne b n (i + 1) _ (by omega) (by simp)
    · simpa using hr
theorem str_ne {c : UInt8} {s : List UInt8} : (str (c :: s)).toList.isEmpty = false := by
  have h : (str (c :: s)).toList ≠ [] := by
    unfold ByteArray.toList ByteArray.toList.loop
    rw [if_pos (show 0 < (str (c :: s)).size from by show 0 < (c :: s).toArray.size; simp)]
    exact loop_ne _ _ _ _ (Nat.le_refl _) (by simp)
  cases hl : (str (c :: s)).toList with
  | nil => exact absurd hl h
  | cons a l => rfl
theorem str_size (l : List UInt8) : (str l).size = l.length := by simp [str, ByteArray.size]
theorem str_0 {c : UInt8} {s : List UInt8} (h : 0 < (str (c :: s)).size) : (str (c :: s))[0]'h = c := by
  rfl
theorem str_tail {c : UInt8} {s : List UInt8} : (str (c :: s)).extract 1 (str (c :: s)).size = str s := by
  apply ByteArray.ext
  rw [ByteArray.data_extract, str_size]
  apply Array.toList_inj.1
  simp [str]
theorem i64_small {x : Int} (h0 : 0 ≤ x) (h1 : x ≤ 1000000) : IntKind.i64.wrap x = x := by
  simp [IntKind.wrap, IntKind.signed, IntKind.bits, IntKind.min, IntKind.max]
  omega
theorem u8_int {c d : UInt8} : ((c.toNat : Int) == (d.toNat : Int)) = (c == d) := by
  rw [Bool.eq_iff_iff, beq_iff_eq, beq_iff_eq]
  constructor
  · intro h
    exact UInt8.toNat_inj.1 (by omega)
  · rintro rfl
    rfl
def PartQ (l : List UInt8) (deep gr : Nat) (w : World) (e : Ending) (w' : World) : Prop :=
  ∃ g, e = .returned (.pointer (some ⟨g, 0, none⟩)) ∧ w.heap.size ≤ g ∧ g < w'.heap.size ∧ FrS (fun k => k = gr) w w' ∧
      ((∃ k r, pt (2 * l.length + 1) deep l = some (k, r) ∧ RdIs w' gr r false ∧ KindIs w' (fun j => w.heap.size ≤ j) k g) ∨ (pt (2 * l.length + 1) deep l = none ∧ ∃ r : List UInt8, RdIs w' gr r true))
theorem PartQ.of_same {l : List UInt8} {deep gr : Nat} {w w1 : World} {e : Ending} {w' : World} (h : PartQ l deep gr w1 e w') (h1 : w1.heap = w.heap) (h2 : w1.os = w.os) (h3 : w1.tape = w.tape) (h4 : w1.output = w.output) : PartQ l deep gr w e w' := by
  obtain ⟨g, he, a, b, f, q⟩ := h
  rw [h1] at a
  refine ⟨g, he, a, b, ⟨f.os.trans h2, f.tape.trans h3, f.output.trans h4, by rw [← h1]; exact f.size, fun k hk hn => by rw [← h1]; exact f.block k (by rw [h1]; exact hk) hn⟩, ?_⟩
  rw [h1] at q
  exact q
theorem info133 : (Try.prog.info? 133).map (fun i => (i.zero, i.size, i.bytes)) = some (some (.pointer none), 1, 8) := by kernel_rfl
def PartC (l : List UInt8) : Prop := ∀ (deep gr : Nat) (w : World), deep ≤ 100 → l.length ≤ 1000 → RdIs w gr l false → Calls Try.prog 94 #[.pointer (some ⟨gr, 0, none⟩), .int .i64 deep] w (PartQ l deep gr w)
theorem star_end {w W w2 w5 : World} {gr gk g2 cc1 : Nat} {A1 : Option Addr} {s : List UInt8} {deep : Nat} (hgk : w.heap.size = gk) (hgr : gr < gk) (hR1 : RdIs W gr s false) (hF1 : FrS (fun k => k = gr) w W) (hS1 : W.heap.size = gk + 1)
    (hG2 : W.heap.size ≤ g2 ∧ g2 < w2.heap.size) (hF2 : FrS (fun k => k = gr) W w2) (hK5 : w5.heap[gk]? = some (.cells #[.int .u8 (UInt8.toNat 42), .slice none 0 0] 157 (0, 0))) (hO : kP.R 133 w5 gk (fun k => gk < k) (.slice A1 ([] ++ [g2]).length cc1) ([] ++ [g2]))
    (hg : w2.grownBy w5 (Value.slice none 0 0).ownBlock) (hPT : pt (2 * (42 :: s).length + 1) deep (42 :: s) = (pt (2 * (42 :: s).length) (deep + 1) s).map (fun p => (.mk 42 [p.1], p.2)))
    (hQ : (∃ k r, pt (2 * s.length + 1) (deep + 1) s = some (k, r) ∧ RdIs w2 gr r false ∧ KindIs w2 (fun j => W.heap.size ≤ j) k g2) ∨ (pt (2 * s.length + 1) (deep + 1) s = none ∧ ∃ r : List UInt8, RdIs w2 gr r true)) :
    PartQ (42 :: s) deep gr w (.returned (.pointer (some ⟨gk, 0, none⟩))) (w5.setCell ⟨gk, 1, none⟩ (.slice A1 ([] ++ [g2]).length cc1)) := by
  have hnone : (Value.slice none 0 0).ownBlock = none := rfl
  have hsz := hF2.size
  have hsz5 := hg.size
  have mv : ∀ k, k ≠ gk → k < w2.heap.size → (w5.setCell ⟨gk, 1, none⟩ (.slice A1 ([] ++ [g2]).length cc1)).heap[k]? = w2.heap[k]? := fun k hk hlt => by
    rw [Below.heap_setCell w5 ⟨gk, 1, none⟩ _ k hk]
    exact hg.block k hlt (by rw [hnone]; simp)
  have hss : (w5.setCell ⟨gk, 1, none⟩ (.slice A1 ([] ++ [g2]).length cc1)).heap.size = w5.heap.size := by simp [World.setCell]
  have hpe : pt (2 * (42 :: s).length) (deep + 1) s = pt (2 * s.length + 1) (deep + 1) s := (pt_fuel _ _).1 _ _ (by simp; omega) (by omega)
  rw [hpe] at hPT
  have hfr : FrS (fun k => k = gr) w (w5.setCell ⟨gk, 1, none⟩ (.slice A1 ([] ++ [g2]).length cc1)) := by
    have h1 := hF1.trans hF2
    refine ⟨hg.os.trans h1.os, hg.tape.trans h1.tape, hg.output.trans h1.output, by rw [hss]; have := h1.size; omega, fun k hk hn => ?_⟩
    exact (mv k (by omega) (by have := h1.size; omega)).trans (h1.block k hk hn)
  refine ⟨gk, rfl, by omega, by rw [hss]; omega, hfr, ?_⟩
  have hrd : ∀ r b, RdIs w2 gr r b → RdIs (w5.setCell ⟨gk, 1, none⟩ (.slice A1 ([] ++ [g2]).length cc1)) gr r b := fun r b h => (mv gr (by omega) (blk_lt h)).trans h
  rcases hQ with ⟨k, r, h1, h2, h3⟩ | ⟨h1, r, h2⟩
  · refine .inl ⟨_, _, by rw [hPT, h1]; rfl, hrd _ _ h2, ?_⟩
    have hk1 : (w5.setCell ⟨gk, 1, none⟩ (.slice A1 ([] ++ [g2]).length cc1)).heap[gk]? = some (.cells #[.int .u8 (UInt8.toNat 42), .slice A1 ([] ++ [g2]).length cc1] 157 (0, 0)) := blk_set hK5 1 _
    have hR5 : kP.R 133 (w5.setCell ⟨gk, 1, none⟩ (.slice A1 ([] ++ [g2]).length cc1)) gk (fun k => gk < k) (.slice A1 ([] ++ [g2]).length cc1) ([] ++ [g2]) := by
      refine Kd.R_step (ok := fun k => gk < k) hO (fun k hk hlt => ?_)
      exact Below.heap_setCell w5 ⟨gk, 1, none⟩ _ k (by have h : gk < k := hk; intro e; have e' : k = gk := e; omega)
    refine KindIs.built (B := gk) (by omega) hk1 (Kd.R_mono hR5 (fun k hk => by have h : gk < k := hk; omega)) rfl (fun _ => by simp) (fun i h => ?_)
    have hi : i = 0 := by simp at h; omega
    subst hi
    exact (h3.move (fun j hj hlt => mv j (by omega) hlt) (by rw [hss]; omega)).mono (fun j hj => by omega)
  · exact .inr ⟨by rw [hPT, h1]; rfl, r, hrd _ _ h2⟩
structure RowSt (w : World) (gr gk deep : Nat) (s : List UInt8) (wr : World) (A : Option Addr) (c : Nat) (gs : List Nat) (r : List UInt8) (bd : Bool) (ks : List Sh) : Prop where
  gkb : wr.heap[gk]? = some (.cells #[.int .u8 (UInt8.toNat 91), .slice A gs.length c] 157 (0, 0))
  row : kP.R 133 wr gk (fun k => gk < k) (.slice A gs.length c) gs
  rd : RdIs wr gr r bd
  fr : FrS (fun k => k = gr) w wr
  ch : bd = false → gs.length = ks.length ∧ ∀ (i : Nat) (h : i < ks.length), KindIs wr (fun j => gk < j ∧ some j ≠ (Value.slice A gs.length c).ownBlock) ks[i] (gs.getD i 0)
  pa : pts (2 * s.length + 2) (deep + 1) s = if bd then none else (pts (2 * r.length + 2) (deep + 1) r).map (fun q => (ks ++ q.1, q.2))
  len : bd = false → gs.length + r.length ≤ s.length
  gl : gs.length ≤ s.length + 1
theorem pts_cons {deep : Nat} {c : UInt8} {s : List UInt8} (hc : c ≠ 93) : pts (2 * (c :: s).length + 2) deep (c :: s) = match pt (2 * (c :: s).length + 1) deep (c :: s) with
      | none => none
      | some p => (pts (2 * p.2.length + 2) deep p.2).map fun q => (p.1 :: q.1, q.2) := by
  conv => lhs; unfold pts
  rw [if_neg hc]
  cases hp : pt (2 * (c :: s).length + 1) deep (c :: s) with
  | none => rfl
  | some p =>
    have := (pt_len _).1 deep (c :: s) p.1 p.2 hp
    simp only
    rw [(pt_fuel (2 * (c :: s).length + 1) (2 * p.2.length + 2)).2 deep p.2 (by omega) (by omega)]
theorem RowSt.step {w : World} {gr gk deep : Nat} {s : List UInt8} {wr : World} {A : Option Addr} {cp : Nat} {gs : List Nat} {c : UInt8} {r : List UInt8} {ks : List Sh} (h : RowSt w gr gk deep s wr A cp gs (c :: r) false ks) (hc : c ≠ 93) (hgk : w.heap.size = gk) (hgr : gr < gk)
    {w2 w5 : World} {g2 c2 : Nat} {A2 : Option Addr} (hG2 : wr.heap.size ≤ g2 ∧ g2 < w2.heap.size) (hF2 : FrS (fun k => k = gr) wr w2)
    (hQ : (∃ k r', pt (2 * (c :: r).length + 1) (deep + 1) (c :: r) = some (k, r') ∧ RdIs w2 gr r' false ∧ KindIs w2 (fun j => wr.heap.size ≤ j) k g2) ∨ (pt (2 * (c :: r).length + 1) (deep + 1) (c :: r) = none ∧ ∃ r' : List UInt8, RdIs w2 gr r' true))
    (hO : kP.R 133 w5 gk (fun k => gk < k) (.slice A2 (gs ++ [g2]).length c2) (gs ++ [g2])) (hg : w2.grownBy w5 (Value.slice A gs.length cp).ownBlock)
    (hat : (Value.slice A2 (gs ++ [g2]).length c2).ownBlock = (Value.slice A gs.length cp).ownBlock ∨ ∃ b, (Value.slice A2 (gs ++ [g2]).length c2).ownBlock = some b ∧ w2.heap.size ≤ b) :
    ∃ r' bd ks', RowSt w gr gk deep s (w5.setCell ⟨gk, 1, none⟩ (.slice A2 (gs ++ [g2]).length c2)) A2 c2 (gs ++ [g2]) r' bd ks' ∧ (bd = false → r'.length < (c :: r).length) := by
  have hln := h.len rfl
  have hgl : (gs ++ [g2]).length ≤ s.length + 1 := by simp at hln ⊢; omega
  have hown := Kd.R_lt h.row
  have hok := h.row.1
  have hgs := blk_lt h.gkb
  have hsz := hF2.size
  have hsz5 := hg.size
  have hne : some gk ≠ (Value.slice A gs.length cp).ownBlock := fun e => by have : gk < gk := hok gk e.symm; omega
  have hgrne : some gr ≠ (Value.slice A gs.length cp).ownBlock := fun e => by have : gk < gr := hok gr e.symm; omega
  have hss : (w5.setCell ⟨gk, 1, none⟩ (.slice A2 (gs ++ [g2]).length c2)).heap.size = w5.heap.size := by simp [World.setCell]
  have mv : ∀ k, k ≠ gk → some k ≠ (Value.slice A gs.length cp).ownBlock → k < w2.heap.size → (w5.setCell ⟨gk, 1, none⟩ (.slice A2 (gs ++ [g2]).length c2)).heap[k]? = w2.heap[k]? := fun k hk hn hlt => by
    rw [Below.heap_setCell w5 ⟨gk, 1, none⟩ _ k hk]
    exact hg.block k hlt hn
  have hk5 : w5.heap[gk]? = some (.cells #[.int .u8 (UInt8.toNat 91), .slice A gs.length cp] 157 (0, 0)) := blk_grown (hF2.blk h.gkb (show ¬ gk = gr by omega)) hg hne
  have hkb : (w5.setCell ⟨gk, 1, none⟩ (.slice A2 (gs ++ [g2]).length c2)).heap[gk]? = some (.cells #[.int .u8 (UInt8.toNat 91), .slice A2 (gs ++ [g2]).length c2] 157 (0, 0)) := blk_set hk5 1 _
  have hrow : kP.R 133 (w5.setCell ⟨gk, 1, none⟩ (.slice A2 (gs ++ [g2]).length c2)) gk (fun k => gk < k) (.slice A2 (gs ++ [g2]).length c2) (gs ++ [g2]) :=
    Kd.R_step (ok := fun k => gk < k) hO (fun k hk hlt => Below.heap_setCell w5 ⟨gk, 1, none⟩ _ k (by have h : gk < k := hk; intro e; have e' : k = gk := e; omega))
  have hrd : ∀ r b, RdIs w2 gr r b → RdIs (w5.setCell ⟨gk, 1, none⟩ (.slice A2 (gs ++ [g2]).length c2)) gr r b := fun r b h => (mv gr (by omega) hgrne (blk_lt h)).trans h
  have hfr : FrS (fun k => k = gr) w (w5.setCell ⟨gk, 1, none⟩ (.slice A2 (gs ++ [g2]).length c2)) := by
    have h1 := h.fr.trans hF2
    refine ⟨hg.os.trans h1.os, hg.tape.trans h1.tape, hg.output.trans h1.output, by rw [hss]; have := h1.size; omega, fun k hk hn => ?_⟩
    exact (mv k (by omega) (fun e => by have : gk < k := hok k e.symm; omega) (by have := h1.size; omega)).trans (h1.block k hk hn)
  have hnew : ∀ j, j < w2.heap.size → some j ≠ (Value.slice A gs.length cp).ownBlock → some j ≠ (Value.slice A2 (gs ++ [g2]).length c2).ownBlock := fun j hj hn e => by
    rcases hat with e2 | ⟨b, e2, hb⟩
    · exact hn (e.trans e2)
    · rw [e2] at e
      injection e with e
      omega
  have hpa := h.pa
  rw [if_neg (by decide), pts_cons hc] at hpa
  rcases hQ with ⟨k, r', h1, h2, h3⟩ | ⟨h1, r', h2⟩
  · rw [h1] at hpa
    have hlt := (pt_len _).1 _ _ _ _ h1
    obtain ⟨hl, hch⟩ := h.ch rfl
    refine ⟨r', false, ks ++ [k], ⟨hkb, hrow, hrd _ _ h2, hfr, fun _ => ⟨by simp [hl], fun i hi => ?_⟩, ?_, fun _ => (by simp at hln ⊢; simp at hlt; omega), hgl⟩, fun _ => hlt⟩
    · by_cases hik : i < ks.length
      · have e1 : (ks ++ [k])[i] = ks[i] := List.getElem_append_left hik
        have e2 : (gs ++ [g2]).getD i 0 = gs.getD i 0 := by simp [List.getD_eq_getElem?_getD, List.getElem?_append_left (by omega : i < gs.length)]
        rw [e1, e2]
        have hb := (hch i hik).bound
        have hb2 := hb.move0 (w1 := w5.setCell ⟨gk, 1, none⟩ (.slice A2 (gs ++ [g2]).length c2)) (fun j hj => (mv j (by omega) hj.1.2 (by omega)).trans (hF2.block j hj.2 (show ¬ j = gr by omega))) (by rw [hss]; omega)
        exact hb2.mono (fun j hj => ⟨hj.1.1, hnew j (by omega) hj.1.2⟩)
      · have hie : i = ks.length := by simp at hi; omega
        subst hie
        have e1 : (ks ++ [k])[ks.length] = k := by simp
        have e2 : (gs ++ [g2]).getD ks.length 0 = g2 := by rw [← hl]; simp [List.getD_eq_getElem?_getD]
        rw [e1, e2]
        have hb := h3.bound
        have hno : ∀ j, wr.heap.size ≤ j → some j ≠ (Value.slice A gs.length cp).ownBlock := fun j hj e => by have := hown j e.symm; omega
        have hb2 := hb.move0 (w1 := w5.setCell ⟨gk, 1, none⟩ (.slice A2 (gs ++ [g2]).length c2)) (fun j hj => mv j (by omega) (hno j hj.1) hj.2) (by rw [hss]; omega)
        exact hb2.mono (fun j hj => ⟨by omega, hnew j hj.2 (hno j hj.1)⟩)
    · rw [if_neg (by decide), hpa]
      simp only [Option.map_map]
      congr 1
      funext q
      simp
  · rw [h1] at hpa
    refine ⟨r', true, ks, ⟨hkb, hrow, hrd _ _ h2, hfr, fun e => (by cases e), (by rw [if_pos rfl, hpa]; rfl), fun e => (by cases e), hgl⟩, fun e => (by cases e)⟩
theorem RowSt.start {w W : World} {gr gk deep : Nat} {s : List UInt8} (hR1 : RdIs W gr s false) (hF1 : FrS (fun k => k = gr) w W) (hK : W.heap[gk]? = some (.cells #[.int .u8 (UInt8.toNat 91), .slice none 0 0] 157 (0, 0))) : RowSt w gr gk deep s W none 0 [] s false [] :=
  ⟨hK, Kd.R_nil _ _ _ _ _, hR1, hF1, fun _ => ⟨rfl, fun i h => absurd h (Nat.not_lt_zero _)⟩, by rw [if_neg (by decide)]; simp, fun _ => (by simp), Nat.zero_le _⟩
theorem RowSt.good {w : World} {gr gk deep : Nat} {s : List UInt8} {wr w' : World} {A : Option Addr} {cp : Nat} {gs : List Nat} {r : List UInt8} {ks : List Sh} (h : RowSt w gr gk deep s wr A cp gs (93 :: r) false ks) (hgk : w.heap.size = gk) (hgr : gr < gk) (h8 : ¬ 8 < deep) (hw : w' = wr.setCell ⟨gr, 0, none⟩ (.string (str r))) :
    PartQ (91 :: s) deep gr w (.returned (.pointer (some ⟨gk, 0, none⟩))) w' := by
  subst hw
  have hss : (wr.setCell ⟨gr, 0, none⟩ (.string (str r))).heap.size = wr.heap.size := by simp [World.setCell]
  have hgs := blk_lt h.gkb
  have hkeep : ∀ k, k ≠ gr → (wr.setCell ⟨gr, 0, none⟩ (.string (str r))).heap[k]? = wr.heap[k]? := fun k hk => Below.heap_setCell wr ⟨gr, 0, none⟩ _ k hk
  have hpa := h.pa
  rw [if_neg (by decide)] at hpa
  have e0 : pts (2 * (93 :: r).length + 2) (deep + 1) (93 :: r) = some ([], r) := by
    conv => lhs; unfold pts
    rw [if_pos rfl]
  rw [e0] at hpa
  have hpt : pt (2 * (91 :: s).length + 1) deep (91 :: s) = some (.mk 91 ks, r) := by
    conv => lhs; unfold pt
    rw [if_neg h8, if_neg (by decide), if_neg (by decide), if_neg (by decide), if_pos rfl, (pt_fuel _ (2 * s.length + 2)).2 _ _ (by simp; omega) (by omega), hpa]
    simp
  obtain ⟨hl, hch⟩ := h.ch rfl
  refine ⟨gk, rfl, by omega, by rw [hss]; exact hgs, h.fr.set (p := ⟨gr, 0, none⟩) (fun _ => rfl) _, .inl ⟨_, _, hpt, blk_set h.rd 0 _, ?_⟩⟩
  refine KindIs.built (B := gk) (by omega) ((hkeep gk (by omega)).trans h.gkb) (Kd.R_mono (Kd.R_step (ok := fun k => gk < k) h.row (fun k hk _ => hkeep k (by have : gk < k := hk; omega))) (fun k hk => by have : gk < k := hk; omega)) hl (fun e => by cases e) (fun i hi => ?_)
  exact ((hch i hi).move0 (fun j hj => hkeep j (by omega)) (by rw [hss]; omega)).mono (fun j hj => by omega)
theorem RowSt.spoilt {w : World} {gr gk deep : Nat} {s : List UInt8} {wr w' : World} {A : Option Addr} {cp : Nat} {gs : List Nat} {r r' : List UInt8} {bd : Bool} {ks : List Sh} (h : RowSt w gr gk deep s wr A cp gs r bd ks) (hgk : w.heap.size = gk) (hgr : gr < gk) (h8 : ¬ 8 < deep) (hb : bd = true ∨ r = [])
    (hs : wr.heap.size ≤ w'.heap.size) (hf : FrS (fun k => k = gr) wr w') (hr : RdIs w' gr r' true) : PartQ (91 :: s) deep gr w (.returned (.pointer (some ⟨gk, 0, none⟩))) w' := by
  have hgs := blk_lt h.gkb
  have hpa : pts (2 * s.length + 2) (deep + 1) s = none := by
    rw [h.pa]
    rcases hb with rfl | rfl
    · rfl
    · split
      · rfl
      · rfl
  have hpt : pt (2 * (91 :: s).length + 1) deep (91 :: s) = none := by
    conv => lhs; unfold pt
    rw [if_neg h8, if_neg (by decide), if_neg (by decide), if_neg (by decide), if_pos rfl, (pt_fuel _ (2 * s.length + 2)).2 _ _ (by simp; omega) (by omega), hpa]
    rfl
  exact ⟨gk, rfl, by omega, by omega, h.fr.trans hf, .inr ⟨hpt, r', hr⟩⟩
set_option maxHeartbeats 2000000 in
set_option maxRecDepth 100000 in
theorem part_step (l : List UInt8) (ih : ∀ s : List UInt8, s.length < l.length → PartC s) : PartC l := by
  intro deep gr w hd hL hR
  have c0 : w.cell? ⟨gr, 0, none⟩ = some (.string (str l)) := (blk_cell hR 0).trans rfl
  have c1 : w.cell? ⟨gr, 1, none⟩ = some (.bool false) := (blk_cell hR 1).trans rfl
  have f0 := blk_frozen hR 0
  have f1 := blk_frozen hR 1
  have hgr : gr < w.heap.size := blk_lt hR
  have hgr' : gr ≠ w.heap.size := by omega
  have HR := Aside0.mk hR
  clear hR
  cases l with
  | nil =>
    have hb := str_nil
    go_enter Try.func94, Try.ntmps94
    go_wp2_with fail
    go_ret
    have hR2 : RdIs ((w.setCell ⟨gr, 1, none⟩ (.bool true)).alloc (.cells #[.int .u8 0, .slice none 0 0] 157)) gr [] true := blk_alloc (blk_set HR.out 1 _) _
    refine ⟨w.heap.size, rfl, Nat.le_refl _, by simp [World.setCell], ?_, .inr ⟨rfl, [], hR2⟩⟩
    exact ((FrS.refl (fun k => k = gr) w).set (p := ⟨gr, 1, none⟩) (fun _ => rfl) _).alloc _
  | cons c s =>
    have hbe := str_ne (c := c) (s := s)
    by_cases h8 : 8 < deep
    · have hb8 : decide ((8 : Int) < deep) = true := decide_eq_true (by omega)
      have HP : Aside0 (pt (2 * (c :: s).length + 1) deep (c :: s) = none) := ⟨by
        rw [show 2 * (c :: s).length + 1 = 2 * (c :: s).length + 1 from rfl]
        unfold pt
        rw [if_pos h8]⟩
      clear h8
      obtain ⟨b, hb⟩ : ∃ b, str (c :: s) = b := ⟨_, rfl⟩
      have HBB := Aside0.mk hb
      rw [hb] at c0 hbe
      clear hb
      go_enter Try.func94, Try.ntmps94
      go_wp2_with fail
      go_ret
      have hR2 : RdIs ((w.setCell ⟨gr, 1, none⟩ (.bool true)).alloc (.cells #[.int .u8 0, .slice none 0 0] 157)) gr (c :: s) true := blk_alloc (blk_set HR.out 1 _) _
      refine ⟨w.heap.size, rfl, Nat.le_refl _, by simp [World.setCell], ?_, .inr ⟨HP.out, c :: s, hR2⟩⟩
      exact ((FrS.refl (fun k => k = gr) w).set (p := ⟨gr, 1, none⟩) (fun _ => rfl) _).alloc _
    · have hb8 : decide ((8 : Int) < deep) = false := decide_eq_false (by omega)
      have hbi := str_0 (c := c) (s := s)
      have hbs : 0 < (str (c :: s)).size := by rw [str_size]; simp
      have hbx := str_tail (c := c) (s := s)
      have H8 := Aside0.mk h8
      clear h8
      generalize str (c :: s) = b at c0 hbe hbi hbs hbx
      go_enter Try.func94, Try.ntmps94
      go_upto_region 6 with fail
      have hR1 : RdIs ((w.setCell ⟨gr, 0, none⟩ (.string (str s))).alloc (.cells #[.int .u8 c.toNat, .slice none 0 0] 157)) gr s false := blk_alloc (blk_set HR.out 0 _) _
      have hK1 : ((w.setCell ⟨gr, 0, none⟩ (.string (str s))).alloc (.cells #[.int .u8 c.toNat, .slice none 0 0] 157)).heap[w.heap.size]? = some (.cells #[.int .u8 c.toNat, .slice none 0 0] 157 (0, 0)) := by
        have := blk_new (w.setCell ⟨gr, 0, none⟩ (.string (str s))) (.cells #[.int .u8 c.toNat, .slice none 0 0] 157)
        simpa [World.setCell] using this
      have hF1 : FrS (fun k => k = gr) w ((w.setCell ⟨gr, 0, none⟩ (.string (str s))).alloc (.cells #[.int .u8 c.toNat, .slice none 0 0] 157)) := ((FrS.refl (fun k => k = gr) w).set (p := ⟨gr, 0, none⟩) (fun _ => rfl) _).alloc _
      have hS1 : ((w.setCell ⟨gr, 0, none⟩ (.string (str s))).alloc (.cells #[.int .u8 c.toNat, .slice none 0 0] 157)).heap.size = w.heap.size + 1 := by simp [World.setCell]
      have HPT : Aside0 (pt (2 * (c :: s).length + 1) deep (c :: s) = if c = 110 then some (.mk 110 [], s) else if c = 98 then some (.mk 98 [], s) else if c = 42 then (pt (2 * (c :: s).length) (deep + 1) s).map (fun p => (.mk 42 [p.1], p.2)) else if c = 91 then (pts (2 * (c :: s).length) (deep + 1) s).map (fun p => (.mk 91 p.1, p.2)) else none) := ⟨by
        conv => lhs; unfold pt
        rw [if_neg H8.out]⟩
      clear c0 c1 f0 f1 hbe hbi hbs hbx
      generalize (w.setCell ⟨gr, 0, none⟩ (.string (str s))).alloc (.cells #[.int .u8 c.toNat, .slice none 0 0] 157) = W at hR1 hK1 hF1 hS1 ⊢
      have HR1 := Aside0.mk hR1
      have HK1 := Aside0.mk hK1
      have HF1 := Aside0.mk hF1
      have HS1 := Aside0.mk hS1
      have k0 : W.cell? ⟨w.heap.size, 0, none⟩ = some (.int .u8 c.toNat) := (blk_cell hK1 0).trans rfl
      have c1 : W.cell? ⟨gr, 1, none⟩ = some (.bool false) := (blk_cell hR1 1).trans rfl
      have f1 := blk_frozen hR1 1
      clear hR1 hK1 hF1 hS1
      generalize hgk : w.heap.size = kb at HK1 HS1 k0 hgr hgr' ⊢
      have HGK := Aside0.mk hgk
      clear hgk
      have t1 : ((c.toNat : Int) == 110) = (c == 110) := u8_int (d := 110)
      have t2 : ((c.toNat : Int) == 98) = (c == 98) := u8_int (d := 98)
      have t3 : ((c.toNat : Int) == 42) = (c == 42) := u8_int (d := 42)
      have t4 : ((c.toNat : Int) == 91) = (c == 91) := u8_int (d := 91)
      by_cases h1 : c = 110
      · subst h1
        rw [if_pos rfl] at HPT
        clear t1 t2 t3 t4
        go_wp2_with fail
        go_ret
        exact ⟨kb, rfl, by rw [HGK.out]; exact Nat.le_refl _, by have := HS1.out; omega, HF1.out, .inl ⟨_, _, HPT.out, HR1.out, .mk (A := none) (gs := []) (by rw [HGK.out]; exact Nat.le_refl _) HK1.out (Kd.C_nil _ _) (fun j hj => absurd hj AtB.none) (Nat.le_refl _) (fun e => by cases e) (fun i h => absurd h (Nat.not_lt_zero _))⟩⟩
      · rw [show (c == 110) = false from by simpa using h1] at t1
        rw [if_neg h1] at HPT
        by_cases h2 : c = 98
        · subst h2
          rw [if_pos rfl] at HPT
          clear t1 t2 t3 t4 h1
          go_wp2_with fail
          go_ret
          exact ⟨kb, rfl, by rw [HGK.out]; exact Nat.le_refl _, by have := HS1.out; omega, HF1.out, .inl ⟨_, _, HPT.out, HR1.out, .mk (A := none) (gs := []) (by rw [HGK.out]; exact Nat.le_refl _) HK1.out (Kd.C_nil _ _) (fun j hj => absurd hj AtB.none) (Nat.le_refl _) (fun e => by cases e) (fun i h => absurd h (Nat.not_lt_zero _))⟩⟩
        · rw [show (c == 98) = false from by simpa using h2] at t2
          rw [if_neg h2] at HPT
          by_cases h3 : c = 42
          · subst h3
            rw [if_pos rfl] at HPT
            clear t1 t2 t3 t4 h1 h2
            have IH := Aside0.mk (ih s (by simp))
            have k1 : W.cell? ⟨kb, 1, none⟩ = some (.slice none 0 0) := (blk_cell HK1.out 1).trans rfl
            have kf := blk_frozen HK1.out 1
            obtain ⟨d1, e1⟩ : ∃ d1 : Int, IntKind.i64.wrap ((deep : Int) + 1) = d1 := ⟨_, rfl⟩
            have HD1 : Aside0 (d1 = ((deep + 1 : Nat) : Int)) := ⟨by have := H8.out; rw [← e1, i64_small (by omega) (by omega)]; omega⟩
            go_wp2_with fail
            have HEAD : Aside0 (∀ W' : World, W'.heap = W.heap → W'.os = W.os → W'.tape = W.tape → W'.output = W.output → Calls Try.prog 94 #[.pointer (some ⟨gr, 0, none⟩), .int .i64 d1] W' (PartQ s (deep + 1) gr W)) := ⟨fun W' h1 h2 h3 h4 => by rw [HD1.out]; exact (IH.out (deep + 1) gr W' (by have := H8.out; omega) (by simp at hL ⊢; omega) (by unfold RdIs; rw [h1]; exact HR1.out)).mono (fun e w' hq => hq.of_same h1 h2 h3 h4)⟩
            go_region_law (first
              | (go_simp; go_at_call 94; refine (HEAD.out _ ?e1 ?e2 ?e3 ?e4).mono ?_; (case e1 => rfl); (case e2 => rfl); (case e3 => rfl); (case e4 => rfl); rintro e w2 ⟨g2, rfl, hg2, hl2, hf2, hq2⟩; have HF2 := Aside0.mk hf2; have HQ2 := Aside0.mk hq2; have HG2 := Aside0.mk (And.intro hg2 hl2); have HK2 := Aside0.mk (hf2.blk HK1.out (show ¬ kb = gr from fun e => hgr' e.symm)); have y1 : w2.cell? ⟨kb, 1, none⟩ = some (.slice none 0 0) := (blk_cell HK2.out 1).trans rfl; have y2 : (w2.alloc (.cells #[.pointer (some ⟨g2, 0, none⟩)] 133)).cell? ⟨kb, 1, none⟩ = some (.slice none 0 0) := (blk_cell (blk_alloc HK2.out _) 1).trans rfl; clear hg2 hl2 hf2 hq2)
              | (refine Kd.R_append_step kP (w0 := w2) kb (by rfl) (.tmp 51) (.tmp 56) 155 133 (.pointer none) 8 rfl Try.underlying155 info133 rfl (by decide) (by decide) (.slice none 0 0) [] g2 [.pointer (some ⟨g2, 0, none⟩)] (fun k => kb < k) (fun _ => False) rfl rfl ?aP (fun _ hk => hk.elim) ?aF ?aO ?aB ?aS ?aL ?_; (case aP => exact rfl); (case aF => exact fun k hk => by have := HF2.out.size; have := HS1.out; omega); (case aO => exact Kd.R_nil _ _ _ _ _); (case aB => exact Below.refl _ _); (case aS => have := HF2.out.size; have := HS1.out; omega); (case aL => simp); intro v1 w5 ho hb hg hat; obtain ⟨A1, cc1, ev1⟩ := Kd.R_slice ho; subst ev1; have HO := Aside0.mk ho; have HG := Aside0.mk hg; have kk := blk_grown HK2.out hg (by simp [Value.ownBlock]); have HK5 := Aside0.mk kk; have z1 : w5.cell? ⟨kb, 1, none⟩ = some (.slice none 0 0) := (blk_cell kk 1).trans rfl; have zf := blk_frozen kk 1; clear ho hb hg hat kk))
            all_goals
              go_wp2_with fail
              go_ret
              exact star_end HGK.out hgr HR1.out HF1.out HS1.out HG2.out HF2.out HK5.out HO.out HG.out HPT.out HQ2.out
          · rw [show (c == 42) = false from by simpa using h3] at t3
            rw [if_neg h3] at HPT
            by_cases h4 : c = 91
            · subst h4
              rw [if_pos rfl] at HPT
              clear t1 t2 t3 t4 h1 h2 h3
              have IH := Aside0.mk ih
              have HST : Aside0 (RowSt w gr kb deep s W none 0 [] s false []) := ⟨RowSt.start HR1.out HF1.out HK1.out⟩
              obtain ⟨d1, e1⟩ : ∃ d1 : Int, IntKind.i64.wrap ((deep : Int) + 1) = d1 := ⟨_, rfl⟩
              have HD1 : Aside0 (d1 = ((deep + 1 : Nat) : Int)) := ⟨by have := H8.out; rw [← e1, i64_small (by omega) (by omega)]; omega⟩
              clear c1 f1
              go_wp2_with fail
              clear k0
              go_loopg [] (s.length + 2) (fun kq wr => ∃ (A : Option Addr) (cp : Nat) (gs : List Nat) (r : List UInt8) (bd : Bool) (ks : List Sh), Aside0 (RowSt w gr kb deep s wr A cp gs r bd ks) ∧ (if bd then 1 else r.length + 2) ≤ kq)
              case atStart => exact ⟨none, 0, [], s, false, [], HST, by simp⟩
              case round =>
                clear HST HR1 HK1 HF1 HS1
                obtain ⟨A, cp, gs, r, bd, ks, HS, hm⟩ := hrel
                have c0 : wr.cell? ⟨gr, 0, none⟩ = some (.string (str r)) := (blk_cell HS.out.rd 0).trans rfl
                have c1 : wr.cell? ⟨gr, 1, none⟩ = some (.bool bd) := (blk_cell HS.out.rd 1).trans rfl
                obtain ⟨hgk1, hgk2⟩ := And.intro HGK.out H8.out
                cases bd with
                | true =>
                  have f0 := blk_frozen HS.out.rd 0
                  have f1 := blk_frozen HS.out.rd 1
                  cases r with
                  | nil =>
                    have hb := str_nil
                    go_wp2_with fail
                    go_ret
                    exact HS.out.spoilt hgk1 hgr hgk2 (.inl rfl) (by simp [World.setCell]) ((FrS.refl (fun k => k = gr) wr).set (p := ⟨gr, 1, none⟩) (fun _ => rfl) _) (blk_set HS.out.rd 1 _)
                  | cons x r =>
                    have hbe := str_ne (c := x) (s := r)
                    have hbs : 0 < (str (x :: r)).size := by rw [str_size]; simp
                    have hbx := str_tail (c := x) (s := r)
                    have HRD := Aside0.mk HS.out.rd
                    generalize str (x :: r) = bb at c0 hbe hbs hbx
                    go_wp2_with fail
                    go_ret
                    exact HS.out.spoilt hgk1 hgr hgk2 (.inl rfl) (by simp [World.setCell]) ((FrS.refl (fun k => k = gr) wr).set (p := ⟨gr, 0, none⟩) (fun _ => rfl) _) (blk_set HRD.out 0 _)
                | false =>
                  cases r with
                  | nil =>
                    have f1 := blk_frozen HS.out.rd 1
                    have hb := str_nil
                    go_wp2_with fail
                    go_ret
                    exact HS.out.spoilt hgk1 hgr hgk2 (.inr rfl) (by simp [World.setCell]) ((FrS.refl (fun k => k = gr) wr).set (p := ⟨gr, 1, none⟩) (fun _ => rfl) _) (blk_set HS.out.rd 1 _)
                  | cons x r =>
                    have hbe := str_ne (c := x) (s := r)
                    have hbi := str_0 (c := x) (s := r)
                    have hbs : 0 < (str (x :: r)).size := by rw [str_size]; simp
                    have hbx := str_tail (c := x) (s := r)
                    have t93 : ((x.toNat : Int) == 93) = (x == 93) := u8_int (d := 93)
                    have HRD := Aside0.mk HS.out.rd
                    by_cases hx : x = 93
                    · subst hx
                      clear t93
                      have f0 := blk_frozen HS.out.rd 0
                      generalize str (93 :: r) = bb at c0 hbe hbi hbs hbx
                      go_wp2_with fail
                      go_ret
                      exact HS.out.good hgk1 hgr hgk2 rfl
                    · rw [show (x == 93) = false from by simpa using hx] at t93
                      generalize str (x :: r) = bb at c0 hbe hbi hbs hbx
                      go_wp2_with fail
                      have hln := HS.out.len rfl
                      have k1 : wr.cell? ⟨kb, 1, none⟩ = some (.slice A gs.length cp) := (blk_cell HS.out.gkb 1).trans rfl
                      have HEAD : Aside0 (∀ W' : World, W'.heap = wr.heap → W'.os = wr.os → W'.tape = wr.tape → W'.output = wr.output → Calls Try.prog 94 #[.pointer (some ⟨gr, 0, none⟩), .int .i64 d1] W' (PartQ (x :: r) (deep + 1) gr wr)) := ⟨fun W' h1 h2 h3 h4 => by rw [HD1.out]; exact (IH.out (x :: r) (by simp at hln ⊢; omega) (deep + 1) gr W' (by have := H8.out; omega) (by simp at hln hL ⊢; omega) (by unfold RdIs; rw [h1]; exact HRD.out)).mono (fun e w' hq => hq.of_same h1 h2 h3 h4)⟩
                      have HNE : Aside0 (some kb ≠ (Value.slice A gs.length cp).ownBlock) := ⟨fun e => by have h : kb < kb := HS.out.row.1 kb e.symm; omega⟩
                      have HGL : Aside0 ((gs.length + 1) * 8 ≤ 140737488355328) := ⟨by have := HS.out.gl; simp at hL; omega⟩
                      clear hbi hbs hbx hbe c0 c1 t93
                      go_region_law (first
                        | (go_simp; go_at_call 94; refine (HEAD.out _ ?e1 ?e2 ?e3 ?e4).mono ?_; (case e1 => rfl); (case e2 => rfl); (case e3 => rfl); (case e4 => rfl); rintro e w2 ⟨g2, rfl, hg2, hl2, hf2, hq2⟩; have HF2 := Aside0.mk hf2; have HQ2 := Aside0.mk hq2; have HG2 := Aside0.mk (And.intro hg2 hl2); have HK2 := Aside0.mk (hf2.blk HS.out.gkb (show ¬ kb = gr from fun e => hgr' e.symm)); have y1 : w2.cell? ⟨kb, 1, none⟩ = some (.slice A gs.length cp) := (blk_cell HK2.out 1).trans rfl; have y2 : (w2.alloc (.cells #[.pointer (some ⟨g2, 0, none⟩)] 133)).cell? ⟨kb, 1, none⟩ = some (.slice A gs.length cp) := (blk_cell (blk_alloc HK2.out _) 1).trans rfl; clear hg2 hl2 hf2 hq2)
                        | (refine Kd.R_append_step kP (w0 := w2) kb (by rfl) (.tmp 86) (.tmp 91) 155 133 (.pointer none) 8 rfl Try.underlying155 info133 rfl (by decide) (by decide) (.slice A gs.length cp) gs g2 [.pointer (some ⟨g2, 0, none⟩)] (fun k => kb < k) (fun _ => False) rfl rfl ?aP (fun _ hk => hk.elim) ?aF ?aO ?aB ?aS ?aL ?_; (case aP => exact rfl); (case aF => exact fun k hk => by have h1 := HF2.out.size; have h2 := blk_lt HS.out.gkb; omega); (case aO => exact Kd.R_step (ok := fun k => kb < k) HS.out.row (fun k hk hlt => HF2.out.block k hlt (show ¬ k = gr from fun e => by have h : kb < k := hk; omega))); (case aB => exact Below.refl _ _); (case aS => have h1 := HF2.out.size; have h2 := blk_lt HS.out.gkb; omega); (case aL => exact HGL.out); intro v1 w5 ho hb hg hat; obtain ⟨A1, cc1, ev1⟩ := Kd.R_slice ho; subst ev1; have HO := Aside0.mk ho; have HG := Aside0.mk hg; have HAT := Aside0.mk hat; have kk := blk_grown HK2.out hg HNE.out; have z1 : w5.cell? ⟨kb, 1, none⟩ = some (.slice A gs.length cp) := (blk_cell kk 1).trans rfl; have zf := blk_frozen kk 1; clear ho hb hg hat kk))
                      all_goals
                        go_wp2_with fail
                        obtain ⟨r', bd', ks', hS', hm'⟩ := HS.out.step hx hgk1 hgr HG2.out HF2.out HQ2.out HO.out HG.out HAT.out
                        go_roundg (if bd' then 1 else r'.length + 2)
                        case measure =>
                          cases bd' with
                          | true => simp at hm ⊢; omega
                          | false => have := hm' rfl; simp at hm this ⊢; omega
                        case rel => exact ⟨A1, cc1, gs ++ [g2], r', bd', ks', ⟨by have h := hS'; rw [List.length_append, List.length_singleton] at h; exact h⟩, Nat.le_refl _⟩
            · rw [show (c == 91) = false from by simpa using h4] at t4
              rw [if_neg h4] at HPT
              clear h1 h2 h3 h4
              go_wp2_with fail
              go_ret
              have hR2 : RdIs (W.setCell ⟨gr, 1, none⟩ (.bool true)) gr s true := blk_set HR1.out 1 _
              exact ⟨kb, rfl, by rw [HGK.out]; exact Nat.le_refl _, by have := HS1.out; simp [World.setCell]; omega, HF1.out.set (p := ⟨gr, 1, none⟩) (fun _ => rfl) _, .inr ⟨HPT.out, s, hR2⟩⟩
theorem part_calls : ∀ (n : Nat) (l : List UInt8), l.length ≤ n → PartC l
  | 0, l, h => part_step l (fun s hs => by omega)
  | n + 1, l, h => part_step l (fun s hs => part_calls n s (by omega))
end Go.Proofs.Ytnkpleggmiamdaa.Mo
