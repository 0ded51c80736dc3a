/- Kept of the text MoY: what is reached (wip/tools/prune.py). -/
import Derived.Test.YtnkpleggmiamdaaVMoX
namespace Go.Proofs.Ytnkpleggmiamdaa.Mo
open Go.RowKit Go.Maps Go.Proofs.YtnkpleggmiamdaaW.PrintWords Go.Proofs.YtnkpleggmiamdaaW.PrintLast Go.Proofs.YtnkpleggmiamdaaW.PrintMore
open Go.Proofs.Ytnkpleggmiamdaa.PSessionParses Go.Proofs.Ytnkpleggmiamdaa.Mp
set_option linter.unusedVariables false
set_option linter.unusedSimpArgs false
def repT (f : List Int → Int → S105 × List Int × Int) : Nat → List Int → Int → List S105 × List Int × Int
  | 0, b, e => ([], b, e)
  | n + 1, b, e => if (f b e).2.2 = 0 then ((f b e).1 :: (repT f n (f b e).2.1 (f b e).2.2).1, (repT f n (f b e).2.1 (f b e).2.2).2) else ([(f b e).1], (f b e).2)
mutual
/-- A value off the front of bytes, what is left, the first error. -/
def takeS : Sh → List Int → Int → S105 × List Int × Int
  | .mk c ks, bs, e =>
    if c = 110 then (⟨(numS bs e).1, [], []⟩, (numS bs e).2)
    else if c = 98 then (⟨0, (cntS true bs e).2.1.take (cntS true bs e).1.toNat, []⟩, (cntS true bs e).2.1.drop (cntS true bs e).1.toNat, (cntS true bs e).2.2)
    else if c = 42 then (⟨0, [], (takeA ks bs e).1⟩, (takeA ks bs e).2)
    else (⟨0, [], (takeL ks bs e).1⟩, (takeL ks bs e).2)
def takeA : List Sh → List Int → Int → List S105 × List Int × Int
  | [], bs, e => ([], bs, e)
  | k :: _, bs, e => repT (takeS k) (cntS (someS k) bs e).1.toNat (cntS (someS k) bs e).2.1 (cntS (someS k) bs e).2.2
def takeL : List Sh → List Int → Int → List S105 × List Int × Int
  | [], bs, e => ([], bs, e)
  | k :: ks, bs, e => ((takeS k bs e).1 :: (takeL ks (takeS k bs e).2.1 (takeS k bs e).2.2).1, (takeL ks (takeS k bs e).2.1 (takeS k bs e).2.2).2)
end
theorem take_eq (c : Int) (ks : List Sh) (bs : List Int) (e : Int) : takeS (.mk c ks) bs e =
    if c = 110 then (⟨(numS bs e).1, [], []⟩, (numS bs e).2)
    else if c = 98 then (⟨0, (cntS true bs e).2.1.take (cntS true bs e).1.toNat, []⟩, (cntS true bs e).2.1.drop (cntS true bs e).1.toNat, (cntS true bs e).2.2)
    else if c = 42 then (⟨0, [], (takeA ks bs e).1⟩, (takeA ks bs e).2)
    else (⟨0, [], (takeL ks bs e).1⟩, (takeL ks bs e).2) := by
  conv => lhs; unfold takeS
theorem takeA_cons (k : Sh) (ks : List Sh) (bs : List Int) (e : Int) : takeA (k :: ks) bs e = repT (takeS k) (cntS (someS k) bs e).1.toNat (cntS (someS k) bs e).2.1 (cntS (someS k) bs e).2.2 := by
  conv => lhs; unfold takeA
theorem takeL_cons (k : Sh) (ks : List Sh) (bs : List Int) (e : Int) : takeL (k :: ks) bs e = ((takeS k bs e).1 :: (takeL ks (takeS k bs e).2.1 (takeS k bs e).2.2).1, (takeL ks (takeS k bs e).2.1 (takeS k bs e).2.2).2) := by
  conv => lhs; unfold takeL
theorem takeL_nil (bs : List Int) (e : Int) : takeL [] bs e = ([], bs, e) := by
  conv => lhs; unfold takeL
def Byt (bs : List Int) : Prop := ∀ x ∈ bs, 0 ≤ x ∧ x ≤ 255
def Lft (f : List Int → Int → S105 × List Int × Int) : Prop := ∀ bs e, Byt bs → Byt (f bs e).2.1 ∧ (f bs e).2.1.length ≤ bs.length
theorem rep_left {f : List Int → Int → S105 × List Int × Int} (hf : Lft f) : ∀ n bs e, Byt bs → Byt (repT f n bs e).2.1 ∧ (repT f n bs e).2.1.length ≤ bs.length
  | 0, bs, e, h => ⟨h, Nat.le_refl _⟩
  | n + 1, bs, e, h => by
    have h1 := hf bs e h
    unfold repT
    split
    · have h2 := rep_left hf n (f bs e).2.1 (f bs e).2.2 h1.1
      exact ⟨h2.1, Nat.le_trans h2.2 h1.2⟩
    · exact h1
mutual
theorem take_left : ∀ k : Sh, Lft (takeS k)
  | .mk c ks => fun bs e h => by
    have hn := numS_range e h
    have hc := cntS_range (sm := true) e h
    have hL := takeL_left ks bs e h
    have hA := takeA_left ks bs e h
    rw [take_eq]
    split
    · exact ⟨hn.2.2.2.1, hn.2.2.2.2⟩
    · split
      · exact ⟨fun x hx => hc.2.2.2.2.1 x (List.mem_of_mem_drop hx), by have := hc.2.2.2.2.2; simp; omega⟩
      · split
        · exact hA
        · exact hL
theorem takeA_left : ∀ (ks : List Sh) (bs : List Int) (e : Int), Byt bs → Byt (takeA ks bs e).2.1 ∧ (takeA ks bs e).2.1.length ≤ bs.length
  | [], bs, e, h => by unfold takeA; exact ⟨h, Nat.le_refl _⟩
  | k :: ks, bs, e, h => by
    have hc := cntS_range (sm := someS k) e h
    have hr := rep_left (take_left k) (cntS (someS k) bs e).1.toNat (cntS (someS k) bs e).2.1 (cntS (someS k) bs e).2.2 hc.2.2.2.2.1
    rw [takeA_cons]
    exact ⟨hr.1, Nat.le_trans hr.2 hc.2.2.2.2.2⟩
theorem takeL_left : ∀ (ks : List Sh) (bs : List Int) (e : Int), Byt bs → Byt (takeL ks bs e).2.1 ∧ (takeL ks bs e).2.1.length ≤ bs.length
  | [], bs, e, h => by unfold takeL; exact ⟨h, Nat.le_refl _⟩
  | k :: ks, bs, e, h => by
    have h1 := take_left k bs e h
    have h2 := takeL_left ks (takeS k bs e).2.1 (takeS k bs e).2.2 h1.1
    rw [takeL_cons]
    exact ⟨h2.1, Nat.le_trans h2.2 h1.2⟩
end
def TakeQ (w0 w : World) (gt : Nat) (r : S105 × List Int × Int) (E : Ending) (w' : World) : Prop :=
  ∃ u1 u2, E = .returned (.agg #[.int .u64 r.1.f0, u1, u2]) ∧ k105.M w' w.heap.size (fun j => w.heap.size ≤ j) r.1 [.int .u64 r.1.f0, u1, u2] ∧ TkIs w0 w' gt r.2.1 r.2.2 ∧ FrS (fun k => k = gt) w w'
theorem frs_same {S : Nat → Prop} {w w1 w' : World} (f : FrS S w1 w') (h1 : w1.heap = w.heap) (h2 : w1.os = w.os) (h3 : w1.tape = w.tape) (h4 : w1.output = w.output) : FrS S w w' :=
  ⟨f.os.trans h2, f.tape.trans h3, f.output.trans h4, by rw [← h1]; exact f.size, fun k hk hn => by rw [← h1]; exact f.block k (by rw [h1]; exact hk) hn⟩
theorem TakeQ.of_same {w0 w w1 : World} {gt : Nat} {r : S105 × List Int × Int} {E : Ending} {w' : World} (h : TakeQ w0 w1 gt r E w') (h1 : w1.heap = w.heap) (h2 : w1.os = w.os) (h3 : w1.tape = w.tape) (h4 : w1.output = w.output) : TakeQ w0 w gt r E w' := by
  obtain ⟨u1, u2, he, m, t, f⟩ := h
  rw [h1] at m
  exact ⟨u1, u2, he, m, t, frs_same f h1 h2 h3 h4⟩
def TakeC (k : Sh) : Prop := ∀ (w0 w : World) (ok : Nat → Prop) (g gt : Nat) (bs : List Int) (e : Int), Below w0.heap.size w0 w → KindIs w0 ok k g → TkIs w0 w gt bs e → Byt bs → bs.length ≤ 2000000000000 → Gd k → (ren k).length ≤ 64 →
  Calls Try.prog 80 #[.pointer (some ⟨g, 0, none⟩), .pointer (some ⟨gt, 0, none⟩)] w (TakeQ w0 w gt (takeS k bs e))
structure VSt (w0 w : World) (gt : Nat) (W : World) (x : S105) (u1 u2 : Value) (bs : List Int) (e : Int) : Prop where
  b4 : W.heap[w.heap.size]? = some (.cells #[.int .u64 0, .slice none 0 0, .slice none 0 0] 105 (0, 0))
  b5 : W.heap[w.heap.size + 1]? = some (.cells #[.int .u64 x.f0, u1, u2] 105 (0, 0))
  r1 : (Kd.int .u8).R 5 W w.heap.size (fun j => w.heap.size + 2 ≤ j) u1 x.f1
  r2 : k105.R 105 W w.heap.size (fun j => w.heap.size + 2 ≤ j) u2 x.f2
  tk : TkIs w0 W gt bs e
  fr : FrS (fun k => k = gt) w W
  lt : gt < w.heap.size
abbrev z33c : Obj := .cells #[.int .u64 0, .slice none 0 0, .slice none 0 0] 105
theorem VSt.start {w0 w : World} {gt : Nat} {bs : List Int} {e : Int} (h : TkIs w0 w gt bs e) : VSt w0 w gt ((w.alloc z33c).alloc z33c) ⟨0, [], []⟩ (.slice none 0 0) (.slice none 0 0) bs e := by
  have hB : Below w.heap.size w ((w.alloc z33c).alloc z33c) := ((Below.refl _ _).alloc (Nat.le_refl _) _).alloc (by rw [World.size_alloc]; omega) _
  have h5 := blk_new (w.alloc z33c) z33c
  rw [World.size_alloc] at h5
  exact ⟨blk_alloc (blk_new w z33c) _, h5, Kd.R_nil _ _ _ _ _, Kd.R_nil _ _ _ _ _, h.below hB, FrS.of_below hB, h.lt⟩
theorem VSt.fr1 {w0 w : World} {gt : Nat} {W W1 : World} {x : S105} {u1 u2 : Value} {bs bs2 : List Int} {e e2 : Int} (h : VSt w0 w gt W x u1 u2 bs e) (hf : FrS (fun k => k = gt) W W1) (ht : TkIs w0 W1 gt bs2 e2) : VSt w0 w gt W1 x u1 u2 bs2 e2 := by
  have hl := h.lt
  exact ⟨hf.blk h.b4 (by show ¬ _ = _; omega), hf.blk h.b5 (by show ¬ _ = _; omega), Kd.R_step h.r1 (fun k hk hlt => hf.block k hlt (by show ¬ _ = _; omega)), Kd.R_step h.r2 (fun k hk hlt => hf.block k hlt (by show ¬ _ = _; omega)), ht, h.fr.trans hf, h.lt⟩
theorem VSt.set0 {w0 w : World} {gt : Nat} {W : World} {x : S105} {u1 u2 : Value} {bs : List Int} {e : Int} (h : VSt w0 w gt W x u1 u2 bs e) (n : Int) : VSt w0 w gt (W.setCell ⟨w.heap.size + 1, 0, none⟩ (.int .u64 n)) ⟨n, x.f1, x.f2⟩ u1 u2 bs e := by
  have hl := h.lt
  refine ⟨blk_far h.b4 (by show ¬ _ = _; simp) _, blk_set h.b5 0 _, Kd.R_far h.r1 (fun k hk => by show k ≠ _; simp; omega) _, Kd.R_far h.r2 (fun k hk => by show k ≠ _; simp; omega) _, ?_, h.fr.set (p := ⟨w.heap.size + 1, 0, none⟩) (fun hk => absurd hk (by simp)) _, h.lt⟩
  obtain ⟨⟨A, c, hb, hc, hC⟩, hg⟩ := h.tk
  exact ⟨⟨A, c, blk_far hb (by show ¬ _ = _; simp; omega) _, hc, hC⟩, hg⟩
theorem set_size (w : World) (p : Addr) (v : Value) : (w.setCell p v).heap.size = w.heap.size := by simp [World.setCell]
theorem VSt.done {w0 w : World} {gt : Nat} {W W' : World} {x : S105} {u1 u2 : Value} {bs : List Int} {e : Int} (h : VSt w0 w gt W x u1 u2 bs e) (hs : W'.heap.size = W.heap.size) (ho : W'.os = W.os ∧ W'.tape = W.tape ∧ W'.output = W.output) (hk : ∀ k, k ≠ w.heap.size → W'.heap[k]? = W.heap[k]?) : TakeQ w0 w gt (x, bs, e) (.returned (.agg #[.int .u64 x.f0, u1, u2])) W' := by
  have hl := h.lt
  have hf : FrS (fun k => k = w.heap.size) W W' := ⟨ho.1, ho.2.1, ho.2.2, by omega, fun k _ hn => hk k hn⟩
  refine ⟨u1, u2, rfl, ?_, h.tk.fr hf (by omega), ⟨ho.1.trans h.fr.os, ho.2.1.trans h.fr.tape, ho.2.2.trans h.fr.output, by have := h.fr.size; omega, fun k hk1 hn => (hk k (by omega)).trans (h.fr.block k hk1 hn)⟩⟩
  exact k105_mkM _ _ _ x (Kd.R_mono (Kd.R_step h.r1 (fun k hk1 _ => hk k (by omega))) (fun k hk1 => by omega)) (Kd.R_mono (Kd.R_step h.r2 (fun k hk1 _ => hk k (by omega))) (fun k hk1 => by omega))
theorem VSt.set1 {w0 w : World} {gt : Nat} {W : World} {x : S105} {u1 u2 : Value} {bs : List Int} {e : Int} (h : VSt w0 w gt W x u1 u2 bs e) {base : Nat} {ok : Nat → Prop} {u : Value} {xs : List Int} (hR : (Kd.int .u8).R 5 W base ok u xs) (hb : w.heap.size ≤ base) (hok : ∀ k, ok k → w.heap.size + 2 ≤ k) :
    VSt w0 w gt (W.setCell ⟨w.heap.size + 1, 1, none⟩ u) ⟨x.f0, xs, x.f2⟩ u u2 bs e := by
  have hl := h.lt
  refine ⟨blk_far h.b4 (by show ¬ _ = _; simp) _, blk_set h.b5 1 _, Kd.R_far (Kd.R_mono (Kd.R_lower hR hb) hok) (fun k hk => by show k ≠ _; simp; omega) _, Kd.R_far h.r2 (fun k hk => by show k ≠ _; simp; omega) _, ?_, h.fr.set (p := ⟨w.heap.size + 1, 1, none⟩) (fun hk => absurd hk (by simp)) _, h.lt⟩
  obtain ⟨⟨A, c, hb, hc, hC⟩, hg⟩ := h.tk
  exact ⟨⟨A, c, blk_far hb (by show ¬ _ = _; simp; omega) _, hc, hC⟩, hg⟩
theorem VSt.setT {w0 w : World} {gt : Nat} {W : World} {x : S105} {u1 u2 : Value} {bs : List Int} {e : Int} (h : VSt w0 w gt W x u1 u2 bs e) {A : Option Addr} {c : Nat} {ds : List Int} (hC : (Kd.int .u8).C w0 A ds.length ds) (hc : ds.length ≤ c) :
    VSt w0 w gt (W.setCell ⟨gt, 0, none⟩ (.slice A ds.length c)) x u1 u2 ds e := by
  have hl := h.lt
  refine ⟨blk_far h.b4 (by show ¬ _ = _; simp; omega) _, blk_far h.b5 (by show ¬ _ = _; simp; omega) _, Kd.R_far h.r1 (fun k hk => by show k ≠ _; simp; omega) _, Kd.R_far h.r2 (fun k hk => by show k ≠ _; simp; omega) _, ?_, h.fr.set (p := ⟨gt, 0, none⟩) (fun _ => rfl) _, h.lt⟩
  obtain ⟨⟨A1, c1, hb, hc1, hC1⟩, hg⟩ := h.tk
  exact ⟨⟨A, c, blk_set hb 0 _, hc, hC⟩, hg⟩
theorem VSt.app {w0 w : World} {gt : Nat} {w2 w5 : World} {xs : List S105} {p : S105} {u2 v1 : Value} {bs : List Int} {e : Int} (h : VSt w0 w gt w2 ⟨0, [], xs⟩ (.slice none 0 0) u2 bs e) (ho : k105.R 105 w5 w.heap.size (fun j => w.heap.size + 2 ≤ j) v1 (xs ++ [p])) (hg : w2.grownBy w5 u2.ownBlock) :
    VSt w0 w gt (w5.setCell ⟨w.heap.size + 1, 2, none⟩ v1) ⟨0, [], xs ++ [p]⟩ (.slice none 0 0) v1 bs e := by
  have hl := h.lt
  have hok := h.r2.1
  have hn : ∀ k, k < w.heap.size + 2 → some k ≠ u2.ownBlock := fun k hk e => by have := hok k e.symm; omega
  have hss := set_size w5 ⟨w.heap.size + 1, 2, none⟩ v1
  have hsz := hg.size
  refine ⟨blk_far (blk_grown h.b4 hg (hn _ (by omega))) (by show ¬ _ = _; simp) _, blk_set (blk_grown h.b5 hg (hn _ (by omega))) 2 _, Kd.R_nil _ _ _ _ _, Kd.R_far ho (fun k hk => by show k ≠ _; simp; omega) _, ?_, ?_, h.lt⟩
  · obtain ⟨⟨A1, c1, hb, hc1, hC1⟩, hg1⟩ := h.tk
    exact ⟨⟨A1, c1, blk_far (blk_grown hb hg (hn _ (by omega))) (by show ¬ _ = _; simp; omega) _, hc1, hC1⟩, hg1⟩
  · refine ⟨hg.os.trans h.fr.os, hg.tape.trans h.fr.tape, hg.output.trans h.fr.output, by rw [hss]; have := h.fr.size; omega, fun k hk hnk => ?_⟩
    rw [Below.heap_setCell w5 ⟨w.heap.size + 1, 2, none⟩ _ k (by show ¬ _ = _; simp; omega)]
    exact (hg.block k (by have := h.fr.size; omega) (hn k (by omega))).trans (h.fr.block k hk hnk)
theorem rep_step {f : List Int → Int → S105 × List Int × Int} {n : Nat} {b b2 : List Int} {e e2 : Int} {x : S105} {xs : List S105} {tot : List S105 × List Int × Int} (h : (xs ++ (repT f (n + 1) b e).1, (repT f (n + 1) b e).2) = tot) (hf : f b e = (x, b2, e2)) :
    (e2 = 0 → ((xs ++ [x]) ++ (repT f n b2 e2).1, (repT f n b2 e2).2) = tot) ∧ (e2 ≠ 0 → (xs ++ [x], b2, e2) = tot) := by
  unfold repT at h
  rw [hf] at h
  refine ⟨fun h0 => ?_, fun h0 => ?_⟩
  · rw [if_pos h0] at h
    rw [← h]; simp
  · rw [if_neg h0] at h
    rw [← h]
theorem takeL_step {ks : List Sh} {i : Nat} (hi : i < ks.length) {b b2 : List Int} {e e2 : Int} {x : S105} {xs : List S105} {tot : List S105 × List Int × Int} (h : (xs ++ (takeL (ks.drop i) b e).1, (takeL (ks.drop i) b e).2) = tot) (hf : takeS ks[i] b e = (x, b2, e2)) :
    ((xs ++ [x]) ++ (takeL (ks.drop (i + 1)) b2 e2).1, (takeL (ks.drop (i + 1)) b2 e2).2) = tot := by
  rw [List.drop_eq_getElem_cons hi, takeL_cons, hf] at h
  rw [← h]; simp
theorem renL_len : ∀ {ks : List Sh}, (∀ k ∈ ks, Gd k) → ks.length ≤ (renL ks).length ∧ ∀ k ∈ ks, (ren k).length ≤ (renL ks).length
  | [], _ => by simp
  | k :: ks, h => by
    have ih := renL_len (ks := ks) (fun x hx => h x (by simp [hx]))
    have hp := ren_pos (h k (by simp))
    rw [renL_cons]
    refine ⟨by simp; omega, fun x hx => ?_⟩
    rcases List.mem_cons.1 hx with rfl | hx
    · simp
    · have := ih.2 x hx; simp; omega
theorem set3 {w : World} {g : Nat} {t : TypeId} {a b c : Value} (h : w.heap[g]? = some (.cells #[a, b, c] t (0, 0))) (x y z : Value) : (((w.setCell ⟨g, 0, none⟩ x).setCell ⟨g, 1, none⟩ y).setCell ⟨g, 2, none⟩ z).heap[g]? = some (.cells #[x, y, z] t (0, 0)) := by
  have := blk_set (blk_set (blk_set h 0 x) 1 y) 2 z
  simpa using this
theorem VSt.fin {w0 w : World} {gt : Nat} {W : World} {x : S105} {u1 u2 : Value} {bs : List Int} {e : Int} {bn : Nat} (h : VSt w0 w gt W x u1 u2 bs e) (hbn : w.heap.size = bn) :
    (((W.setCell ⟨bn, 0, none⟩ (.int .u64 x.f0)).setCell ⟨bn, 1, none⟩ u1).setCell ⟨bn, 2, none⟩ u2).heap[bn]? = some (.cells #[.int .u64 x.f0, u1, u2] 105 (0, 0)) ∧
      TakeQ w0 w gt (x, bs, e) (.returned (.agg #[.int .u64 x.f0, u1, u2])) (((W.setCell ⟨bn, 0, none⟩ (.int .u64 x.f0)).setCell ⟨bn, 1, none⟩ u1).setCell ⟨bn, 2, none⟩ u2) := by
  subst hbn
  refine ⟨set3 h.b4 _ _ _, h.done (by simp [World.setCell]) ⟨rfl, rfl, rfl⟩ (fun k hk => ?_)⟩
  rw [Below.heap_setCell _ ⟨w.heap.size, 2, none⟩ _ k hk, Below.heap_setCell _ ⟨w.heap.size, 1, none⟩ _ k hk, Below.heap_setCell _ ⟨w.heap.size, 0, none⟩ _ k hk]
set_option maxHeartbeats 1000000 in
set_option maxRecDepth 100000 in
theorem take_step (c : Int) (ks : List Sh) (ih : ∀ k ∈ ks, TakeC k) : TakeC (.mk c ks) := by
  intro w0 w ok g gt bs e hB hK hT hx hl hG hR
  have HS := Aside0.mk (VSt.start hT)
  have HB := Aside0.mk hB
  have HBW : Aside0 (Below w0.heap.size w0 ((w.alloc z33c).alloc z33c)) := ⟨hB.trans ((((Below.refl _ _).alloc (Nat.le_refl _) _).alloc (by rw [World.size_alloc]; omega) _).mono hB.size)⟩
  have HX := Aside0.mk hx
  have hgt := hT.lt
  have hge := hT.ge
  have IH := Aside0.mk ih
  have hsb : (w.alloc z33c).heap.size = w.heap.size + 1 := World.size_alloc _ _
  obtain ⟨res, hres⟩ : ∃ res, takeS (.mk c ks) bs e = res := ⟨_, rfl⟩
  rw [hres]
  rw [take_eq] at hres
  have HRES := Aside0.mk hres
  clear hB hT hx ih hres
  go_enter Try.func80, Try.ntmps80
  go_upto_region 2 with fail
  generalize (w.alloc z33c).alloc z33c = W at HS HBW ⊢
  generalize hbn : w.heap.size = bn at hsb hgt ⊢
  have n4 : W.heap[bn]? = some (.cells #[.int .u64 0, .slice none 0 0, .slice none 0 0] 105 (0, 0)) := hbn ▸ HS.out.b4
  have n5 : W.heap[bn + 1]? = some (.cells #[.int .u64 0, .slice none 0 0, .slice none 0 0] 105 (0, 0)) := hbn ▸ HS.out.b5
  have HBN := Aside0.mk hbn
  clear hsb
  have HG := Aside0.mk hG
  have hG1 := hG
  have HK0 := Aside0.mk hK
  clear hG
  cases hK with
  | mk hg hb hC hA hcap hw hk =>
    rename_i A cap gs
    have k0 : W.cell? ⟨g, 0, none⟩ = some (.int .u8 c) := cellB HBW.out ((blk_cell hb 0).trans rfl)
    have k1 : W.cell? ⟨g, 1, none⟩ = some (.slice A ks.length cap) := cellB HBW.out ((blk_cell hb 1).trans rfl)
    have HKB := Aside0.mk hb
    have HCC := Aside0.mk hC
    have HKK := Aside0.mk hk
    have hmax := hC.2.1
    clear hg hb hC hA hcap hk
    cases hG1 with
    | num =>
      rw [if_pos rfl] at HRES
      have HN := Aside0.mk (number_calls w0 W gt bs e HBW.out HS.out.tk HX.out)
      go_wp2_with fail
      refine HN.out.mono ?_
      rintro E w2 ⟨n, bs2, e2, hn, rfl, hT2, hF2⟩
      have HS2 := Aside0.mk (HS.out.fr1 hF2 hT2)
      have HS3 := Aside0.mk (HS2.out.set0 n)
      have p5 := HS2.out.b5
      rw [hbn] at HS3 p5
      have m5 := blk_frozen p5 0
      have q0 : w2.cell? ⟨bn + 1, 0, none⟩ = some (.int .u64 0) := (blk_cell p5 0).trans rfl
      rw [hn] at HRES
      clear hn hT2 hF2 n4 n5 k0 k1 HN
      clear p5
      go_upto_region 20 with fail
      generalize w2.setCell ⟨bn + 1, 0, none⟩ (.int .u64 n) = W3 at HS3 ⊢
      clear m5 q0
      have p4 := HS3.out.b4
      have p5 := HS3.out.b5
      rw [HBN.out] at p4 p5
      have m4 := blk_frozen p4 0
      have m6 := blk_frozen p4 1
      have m7 := blk_frozen p4 2
      have r0 : W3.cell? ⟨bn, 0, none⟩ = some (.int .u64 0) := (blk_cell p4 0).trans rfl
      have r1 : W3.cell? ⟨bn, 1, none⟩ = some (.slice none 0 0) := (blk_cell p4 1).trans rfl
      have r2 : W3.cell? ⟨bn, 2, none⟩ = some (.slice none 0 0) := (blk_cell p4 2).trans rfl
      have q0 : W3.cell? ⟨bn + 1, 0, none⟩ = some (.int .u64 n) := (blk_cell p5 0).trans rfl
      have q1 : W3.cell? ⟨bn + 1, 1, none⟩ = some (.slice none 0 0) := (blk_cell p5 1).trans rfl
      have q2 : W3.cell? ⟨bn + 1, 2, none⟩ = some (.slice none 0 0) := (blk_cell p5 2).trans rfl
      clear p4 p5
      go_wp2_with fail
      refine bodyPost_ret (results_cell_row rfl _ _ bn 105 #[.int .u64 n, .slice none 0 0, .slice none 0 0] (0, 0) _ rfl (HS3.out.fin HBN.out).1 Try.underlying105 rfl (by kernel_rfl)) rfl ?_
      rw [← HRES.out]
      exact (HS3.out.fin HBN.out).2
    | byt =>
      rw [if_neg (by decide), if_pos rfl] at HRES
      have HN := Aside0.mk (count_calls true w0 W gt bs e HBW.out HS.out.tk HX.out)
      have HR := Aside0.mk (cntS_range (sm := true) e HX.out)
      go_wp2_with fail
      refine HN.out.mono ?_
      rintro E w2 ⟨n, bs2, e2, hn, rfl, hT2, hF2⟩
      rw [hn] at HRES HR
      have HS2 := Aside0.mk (HS.out.fr1 hF2 hT2)
      have HB2 : Aside0 (Below w0.heap.size w0 w2) := ⟨HBW.out.trans (hF2.to_below (fun k hk => by have h : k = gt := hk; omega) HBW.out.size)⟩
      obtain ⟨hn0, _, hn1, _, hbx, hbl⟩ := HR.out
      replace hn1 := hn1 trivial
      simp only at hn0 hn1 hbl
      obtain ⟨⟨A2, cp2, hb2, hc2, hC2⟩, _⟩ := hT2
      have y0 : w2.cell? ⟨gt, 0, none⟩ = some (.slice A2 bs2.length cp2) := (blk_cell hb2 0).trans rfl
      have yf := blk_frozen hb2 0
      have p5 := HS2.out.b5
      rw [hbn] at p5
      have m5 := blk_frozen p5 1
      have q1 : w2.cell? ⟨bn + 1, 1, none⟩ = some (.slice none 0 0) := (blk_cell p5 1).trans rfl
      obtain ⟨i5v, i5, i5s⟩ := i5x
      have hm1 := cut_to (P := Try.prog) 26 5 .i64 Try.underlying26 i5 A2 bs2.length cp2 n hn0 hn1 hc2
      have hm2 := cut_from (P := Try.prog) 26 5 .i64 Try.underlying26 i5 1 i5s A2 bs2.length cp2 n hn0 hn1
      have hC3 := Kd.C_take (m := n.toNat) hC2 (by omega)
      have hC4 := Kd.C_drop (m := n.toNat) (c := cp2) hC2 (by omega) hc2
      have htl : (bs2.take n.toNat).length = n.toNat := by rw [List.length_take]; omega
      have hdl : (bs2.drop n.toNat).length = bs2.length - n.toNat := List.length_drop
      have HBS : Aside0 (Bs w2 A2 cp2 (bs2.take n.toNat)) := ⟨⟨Kd.C_below hC3 HB2.out, by omega, by omega⟩⟩
      have hz : (Kd.int .u8).sz = 1 := rfl
      rw [hz] at hC4
      rw [← htl] at hm1
      rw [← hdl] at hm2
      have HCP : Aside0 ((bs2.drop n.toNat).length ≤ cp2 - n.toNat) := ⟨by omega⟩
      generalize (if cp2 = n.toNat then A2 else A2.map (·.add (n.toNat * 1))) = A4 at hm2 hC4
      have HC4 := Aside0.mk hC4
      have HB2B := Aside0.mk hb2
      have HCL := Aside0.mk (clone_calls A2 cp2 _ w2 HBS.out)
      clear hn hF2 n4 n5 k0 k1 HN hb2 hC2 hC3 hC4 htl hdl hz p5 i5 i5s hbx HR hbl
      generalize hxs : bs2.take n.toNat = xs at hm1 HBS HCL HRES
      generalize hds : bs2.drop n.toNat = ds at hm2 HCP HC4 HRES
      clear hxs hds
      generalize bs2.length = nb at *
      go_wp2_with fail
      refine HCL.out.mono ?_
      rintro E w3 ⟨u, rfl, hRu, hBu⟩
      obtain ⟨Au, cu, rfl⟩ := Kd.R_slice hRu
      have HS3 := Aside0.mk (HS2.out.fr1 (FrS.of_below hBu) (HS2.out.tk.below hBu))
      have HS4 := Aside0.mk (HS3.out.set1 hRu (by rw [hbn]; have := HS2.out.fr.size; omega) (fun k hk => by have := blk_lt HS2.out.b5; omega))
      have HS5 := Aside0.mk (HS4.out.setT HC4.out HCP.out)
      rw [hbn] at HS4 HS5
      have yg := blk_below HB2B.out hBu
      have y0' : w3.cell? ⟨gt, 0, none⟩ = some (.slice A2 nb cp2) := (blk_cell yg 0).trans rfl
      have yf' := blk_frozen yg 0
      have p5 := HS3.out.b5
      rw [hbn] at p5
      have m5' := blk_frozen p5 1
      have q1' : w3.cell? ⟨bn + 1, 1, none⟩ = some (.slice none 0 0) := (blk_cell p5 1).trans rfl
      have hne : gt ≠ bn + 1 := by omega
      clear y0 yf m5 q1 hRu hBu p5 yg HB2B
      go_upto_region 20 with fail
      generalize ((w3.setCell ⟨bn + 1, 1, none⟩ (.slice Au xs.length cu)).setCell ⟨gt, 0, none⟩ (.slice A4 ds.length (cp2 - n.toNat))) = W3 at HS5 ⊢
      clear y0' yf' m5' q1'
      have p4 := HS5.out.b4
      have p5 := HS5.out.b5
      rw [HBN.out] at p4 p5
      have m4 := blk_frozen p4 0
      have m6 := blk_frozen p4 1
      have m7 := blk_frozen p4 2
      have r0 : W3.cell? ⟨bn, 0, none⟩ = some (.int .u64 0) := (blk_cell p4 0).trans rfl
      have r1 : W3.cell? ⟨bn, 1, none⟩ = some (.slice none 0 0) := (blk_cell p4 1).trans rfl
      have r2 : W3.cell? ⟨bn, 2, none⟩ = some (.slice none 0 0) := (blk_cell p4 2).trans rfl
      have q0 : W3.cell? ⟨bn + 1, 0, none⟩ = some (.int .u64 0) := (blk_cell p5 0).trans rfl
      have q1 : W3.cell? ⟨bn + 1, 1, none⟩ = some (.slice Au xs.length cu) := (blk_cell p5 1).trans rfl
      have q2 : W3.cell? ⟨bn + 1, 2, none⟩ = some (.slice none 0 0) := (blk_cell p5 2).trans rfl
      clear p4 p5
      go_wp2_with fail
      refine bodyPost_ret (results_cell_row rfl _ _ bn 105 #[.int .u64 0, .slice Au xs.length cu, .slice none 0 0] (0, 0) _ rfl (HS5.out.fin HBN.out).1 Try.underlying105 rfl (by kernel_rfl)) rfl ?_
      rw [← HRES.out]
      exact (HS5.out.fin HBN.out).2
    | @lst k1' h1 =>
      rw [if_neg (by decide), if_neg (by decide), if_pos rfl, takeA_cons] at HRES
      have HR64 : Aside0 ((ren k1').length ≤ 64) := ⟨by rw [ren_lst] at hR; simp at hR; omega⟩
      have H1 := Aside0.mk h1
      obtain ⟨pd, rfl, y0⟩ := at_P HCC.out 0 (by simp)
      have y0w : w0.cell? pd = some (.pointer (some ⟨gs.getD 0 0, 0, none⟩)) := y0
      have HKI : Aside0 (KindIs w0 ok k1' (gs.getD 0 0)) := ⟨HKK.out 0 (by simp)⟩
      generalize gs.getD 0 0 = gi at y0w HKI
      have HY := Aside0.mk y0w
      have y1 := cellB HBW.out y0w
      have HSM := Aside0.mk (some_calls k1' W ok gi (HKI.out.under (HBW.out.mono (Nat.le_refl _))))
      have hnk : ([k1'] : List Sh).length = 1 := rfl
      rw [hnk] at k1 hmax
      have IHK := Aside0.mk (IH.out k1' (by simp))
      clear y0 y0w h1 hnk n4 n5
      go_wp2_with fail
      refine HSM.out.mono ?_
      rintro E w2 ⟨rfl, hB2⟩
      have HS2 := Aside0.mk (HS.out.fr1 (FrS.of_below hB2) (HS.out.tk.below hB2))
      have HB2 : Aside0 (Below w0.heap.size w0 w2) := ⟨HBW.out.trans (hB2.mono HBW.out.size)⟩
      have HN := Aside0.mk (count_calls (someS k1') w0 w2 gt bs e HB2.out HS2.out.tk HX.out)
      have HR := Aside0.mk (cntS_range (sm := someS k1') e HX.out)
      clear hB2 k0 k1 y1
      go_wp2_with fail
      refine HN.out.mono ?_
      rintro E w3 ⟨n, bs2, e2, hn, rfl, hT2, hF2⟩
      rw [hn] at HRES HR
      have HS3 := Aside0.mk (HS2.out.fr1 hF2 hT2)
      obtain ⟨hn0, hn1, _, hn3, hbx, hbl⟩ := HR.out
      simp only at hn0 hn1 hbl hbx hn3
      have HBY0 : Aside0 (Byt bs2 ∧ bs2.length ≤ 2000000000000) := ⟨hbx, by omega⟩
      obtain ⟨m, rfl⟩ := Int.eq_ofNat_of_zero_le hn0
      have hm : m ≤ 2000000000000 := by omega
      have HE0 : Aside0 (e2 ≠ 0 → m = 0) := ⟨fun h => by have := hn3 h; omega⟩
      obtain ⟨tot, htot⟩ : ∃ tot, repT (takeS k1') m bs2 e2 = tot := ⟨_, rfl⟩
      simp only [Int.toNat_natCast] at HRES
      rw [htot] at HRES
      have HT0 : Aside0 ((([] : List S105) ++ (repT (takeS k1') m bs2 e2).1, (repT (takeS k1') m bs2 e2).2) = tot) := ⟨by rw [← htot]; simp⟩
      clear htot hn hT2 hF2 hbx hbl hn0 hn1 hn3 HR HN HSM
      go_wp2_with fail
      go_loopg [68] m (fun kq v68 wr => ∃ (i : Nat) (xs : List S105) (A5 : Option Addr) (c5 : Nat) (b : List Int) (e' : Int), v68 = .int .i64 i ∧ i + kq = m ∧ xs.length = i ∧ Aside0 ((xs ++ (repT (takeS k1') kq b e').1, (repT (takeS k1') kq b e').2) = tot) ∧ Aside0 (Byt b ∧ b.length ≤ 2000000000000) ∧ Aside0 (VSt w0 w gt wr ⟨0, [], xs⟩ (.slice none 0 0) (.slice A5 xs.length c5) b e'))
      case atStart => exact ⟨0, [], none, 0, bs2, e2, rfl, by omega, rfl, HT0, HBY0, HS3⟩
      case round =>
        clear HT0 HS HBW HS2 HB2 HS3 HBY0
        obtain ⟨i, xs, A5, c5, b, e', rfl, hi, hxl, HTL, HBY, HS⟩ := hrel
        have HXL := Aside0.mk hxl
        clear hxl
        by_cases hlt : i < m
        · obtain ⟨kn, rfl⟩ : ∃ kn, gk = kn + 1 := ⟨gk - 1, by omega⟩
          have hlt' : (i : Int) < (m : Int) := by omega
          have HBr : Aside0 (Below w0.heap.size w0 wr) := ⟨HB.out.trans (HS.out.fr.to_below (fun k hk => by have h : k = gt := hk; omega) HB.out.size)⟩
          have y0' := cellB HBr.out HY.out
          have kk1 : wr.cell? ⟨g, 1, none⟩ = some (.slice (some pd) 1 cap) := cellB HBr.out ((blk_cell HKB.out 1).trans rfl)
          obtain ⟨⟨x, b2, e3⟩, hr⟩ : ∃ r, takeS k1' b e' = r := ⟨_, rfl⟩
          have HBY2 : Aside0 (Byt b2 ∧ b2.length ≤ 2000000000000) := ⟨by
            have h := take_left k1' b e' HBY.out.1
            rw [hr] at h
            exact ⟨h.1, Nat.le_trans h.2 HBY.out.2⟩⟩
          have HTL2 := Aside0.mk (rep_step HTL.out hr)
          have HEAD : Aside0 (∀ W' : World, W'.heap = wr.heap → W'.os = wr.os → W'.tape = wr.tape → W'.output = wr.output → Calls Try.prog 80 #[.pointer (some ⟨gi, 0, none⟩), .pointer (some ⟨gt, 0, none⟩)] W' (TakeQ w0 wr gt (x, b2, e3))) := ⟨fun W' h1 h2 h3 h4 => by
            rw [← hr]
            refine (IHK.out w0 W' ok gi gt b e' (below_same HBr.out h1 h2 h3 h4) HKI.out ?_ HBY.out.1 HBY.out.2 H1.out HR64.out).mono (fun E w' hq => hq.of_same h1 h2 h3 h4)
            obtain ⟨⟨A1, c1, hb, hc1, hC1⟩, hg1⟩ := HS.out.tk
            exact ⟨⟨A1, c1, by rw [h1]; exact hb, hc1, hC1⟩, hg1⟩⟩
          have p5 := HS.out.b5
          rw [HBN.out] at p5
          have q2 : wr.cell? ⟨bn + 1, 2, none⟩ = some (.slice A5 xs.length c5) := (blk_cell p5 2).trans rfl
          have HAL : Aside0 ((xs.length + 1) * 56 ≤ 140737488355328) := ⟨by have h1 := HXL.out; omega⟩
          have HBS := Aside0.mk (blk_lt p5)
          have HYM := Aside0.mk (And.intro y0' kk1)
          clear hr p5
          go_upto_region 17 with fail
          go_region_law (first
            | (go_simp; go_at_call 80; refine (HEAD.out _ ?e1 ?e2 ?e3 ?e4).mono ?_; (case e1 => rfl); (case e2 => rfl); (case e3 => rfl); (case e4 => rfl); rintro E w2 ⟨v1, v2, rfl, hM, hT, hF⟩; have HS2 := Aside0.mk (HS.out.fr1 hF hT); have HM := Aside0.mk hM; have p5 := HS2.out.b5; rw [HBN.out] at p5; have y1 : w2.cell? ⟨bn + 1, 2, none⟩ = some (.slice A5 xs.length c5) := (blk_cell p5 2).trans rfl; have y2 : (w2.alloc (.cells #[.int .u64 x.f0, v1, v2] 105)).cell? ⟨bn + 1, 2, none⟩ = some (.slice A5 xs.length c5) := (blk_cell (blk_alloc p5 _) 2).trans rfl; have HFZ := Aside0.mk hF.size; clear hM hT hF p5)
            | (refine Kd.R_append_step k105 (w0 := w2) w.heap.size (by rfl) (.tmp 71) (.tmp 80) 103 105 (.agg #[(.int .u64 0), (.slice none 0 0), (.slice none 0 0)]) 56 rfl Try.underlying103 info105 rfl (by decide) (by omega) (.slice A5 xs.length c5) xs x [.int .u64 x.f0, v1, v2] (fun k => w.heap.size + 2 ≤ k) (fun k => wr.heap.size ≤ k) rfl rfl ?aP ?aK ?aF ?aO ?aB ?aS ?aL ?_; (case aP => exact k105.M_lower (by have := HBS.out; have := HBN.out; omega) HM.out); (case aK => exact fun k hk => ⟨by have := HBS.out; have := HBN.out; omega, fun e => by have := Kd.R_lt HS.out.r2 k e.symm; omega⟩); (case aF => exact fun k hk => by have := HBS.out; have := HBN.out; have := HFZ.out; omega); (case aO => exact HS2.out.r2); (case aB => exact Below.refl _ _); (case aS => have := HBS.out; have := HBN.out; have := HFZ.out; omega); (case aL => exact HAL.out); intro v5 w5 ho hb hg hat; obtain ⟨A6, c6, ev6⟩ := Kd.R_slice ho; subst ev6; have HS5 := Aside0.mk (HS2.out.app ho hg); have kk := blk_grown HS2.out.b5 hg (fun e => by have := HS2.out.r2.1 _ e.symm; omega); rw [HBN.out] at kk HS5; have z1 : w5.cell? ⟨bn + 1, 2, none⟩ = some (.slice A5 xs.length c5) := (blk_cell kk 2).trans rfl; have zf := blk_frozen kk 2; clear ho hb hg hat kk))
          all_goals
            go_upto_region 18 with fail
            have hS5 := HS5.out
            simp only [List.length_append, List.length_singleton] at hS5
            have HS6 := Aside0.mk hS5
            clear hS5 HS5
            generalize w5.setCell ⟨bn + 1, 2, none⟩ (.slice A6 (xs.length + 1) c6) = W5 at HS6 ⊢
            have hte : W5.cell? ⟨gt, 1, none⟩ = some (.int .i64 e3) := by
              obtain ⟨⟨A1, c1, hb, _, _⟩, _⟩ := HS6.out.tk
              exact (blk_cell hb 1).trans rfl
            clear z1 zf y1 y2 q2 y0' kk1
            by_cases h0 : e3 = 0
            · have t0 : (e3 != 0) = false := by simpa using h0
              have HT3 := Aside0.mk (HTL2.out.1 h0)
              clear h0
              go_wp2_with fail
              go_roundg kn
              case measure => omega
              case rel => exact ⟨i + 1, xs ++ [x], A6, c6, b2, e3, by go_num, by omega, by simp; exact HXL.out, HT3, HBY2, ⟨by have h := HS6.out; simp only [List.length_append, List.length_singleton]; exact h⟩⟩
            · have t0 : (e3 != 0) = true := by simpa using h0
              have HT3 := Aside0.mk (HTL2.out.2 h0)
              clear h0
              rw [← HT3.out] at HRES
              go_upto_region 20 with fail
              have p4 := HS6.out.b4
              have p5 := HS6.out.b5
              rw [HBN.out] at p4 p5
              have m4 := blk_frozen p4 0
              have m6 := blk_frozen p4 1
              have m7 := blk_frozen p4 2
              have r0 : W5.cell? ⟨bn, 0, none⟩ = some (.int .u64 0) := (blk_cell p4 0).trans rfl
              have r1 : W5.cell? ⟨bn, 1, none⟩ = some (.slice none 0 0) := (blk_cell p4 1).trans rfl
              have r2 : W5.cell? ⟨bn, 2, none⟩ = some (.slice none 0 0) := (blk_cell p4 2).trans rfl
              have q0 : W5.cell? ⟨bn + 1, 0, none⟩ = some (.int .u64 0) := (blk_cell p5 0).trans rfl
              have q1 : W5.cell? ⟨bn + 1, 1, none⟩ = some (.slice none 0 0) := (blk_cell p5 1).trans rfl
              have q2 : W5.cell? ⟨bn + 1, 2, none⟩ = some (.slice A6 (xs.length + 1) c6) := (blk_cell p5 2).trans rfl
              clear p4 p5
              go_wp2_with fail
              refine bodyPost_ret (results_cell_row rfl _ _ bn 105 #[.int .u64 0, .slice none 0 0, .slice A6 (xs.length + 1) c6] (0, 0) _ rfl (HS6.out.fin HBN.out).1 Try.underlying105 rfl (by kernel_rfl)) rfl ?_
              rw [← HRES.out]
              exact (HS6.out.fin HBN.out).2
        · have HE : Aside0 ((xs, b, e') = tot) := ⟨by
            have h := HTL.out
            obtain rfl : gk = 0 := by omega
            unfold repT at h
            simpa using h⟩
          rw [← HE.out] at HRES
          go_upto_region 20 with fail
          have p4 := HS.out.b4
          have p5 := HS.out.b5
          rw [HBN.out] at p4 p5
          have m4 := blk_frozen p4 0
          have m6 := blk_frozen p4 1
          have m7 := blk_frozen p4 2
          have r0 : wr.cell? ⟨bn, 0, none⟩ = some (.int .u64 0) := (blk_cell p4 0).trans rfl
          have r1 : wr.cell? ⟨bn, 1, none⟩ = some (.slice none 0 0) := (blk_cell p4 1).trans rfl
          have r2 : wr.cell? ⟨bn, 2, none⟩ = some (.slice none 0 0) := (blk_cell p4 2).trans rfl
          have q0 : wr.cell? ⟨bn + 1, 0, none⟩ = some (.int .u64 0) := (blk_cell p5 0).trans rfl
          have q1 : wr.cell? ⟨bn + 1, 1, none⟩ = some (.slice none 0 0) := (blk_cell p5 1).trans rfl
          have q2 : wr.cell? ⟨bn + 1, 2, none⟩ = some (.slice A5 xs.length c5) := (blk_cell p5 2).trans rfl
          clear p4 p5
          go_wp2_with fail
          refine bodyPost_ret (results_cell_row rfl _ _ bn 105 #[.int .u64 0, .slice none 0 0, .slice A5 xs.length c5] (0, 0) _ rfl (HS.out.fin HBN.out).1 Try.underlying105 rfl (by kernel_rfl)) rfl ?_
          rw [← HRES.out]
          exact (HS.out.fin HBN.out).2
    | row h1 =>
      rw [if_neg (by decide), if_neg (by decide), if_neg (by decide)] at HRES
      have HRL := Aside0.mk (renL_len h1)
      have HR64 : Aside0 ((renL ks).length ≤ 64) := ⟨by rw [ren_row] at hR; simp at hR; omega⟩
      have H1 := Aside0.mk h1
      obtain ⟨tot, htot⟩ : ∃ tot, takeL ks bs e = tot := ⟨_, rfl⟩
      rw [htot] at HRES
      have HT0 : Aside0 ((([] : List S105) ++ (takeL (ks.drop 0) bs e).1, (takeL (ks.drop 0) bs e).2) = tot) := ⟨by rw [← htot]; simp⟩
      clear htot h1
      go_wp2_with fail
      clear k0 k1 n4 n5
      go_loopg [8, 18] ks.length (fun kq v8 v18 wr => ∃ (i : Nat) (xs : List S105) (A5 : Option Addr) (c5 : Nat) (b : List Int) (e' : Int), v18 = .int .i64 i ∧ i + kq = ks.length ∧ xs.length = i ∧ Aside0 ((xs ++ (takeL (ks.drop i) b e').1, (takeL (ks.drop i) b e').2) = tot) ∧ Aside0 (Byt b ∧ b.length ≤ 2000000000000) ∧ Aside0 (VSt w0 w gt wr ⟨0, [], xs⟩ (.slice none 0 0) (.slice A5 xs.length c5) b e'))
      case atStart => exact ⟨0, [], none, 0, bs, e, rfl, by omega, rfl, HT0, ⟨HX.out, hl⟩, HS⟩
      case round =>
        clear HT0 HS HBW
        obtain ⟨i, xs, A5, c5, b, e', rfl, hi, hxl, HTL, HBY, HS⟩ := hrel
        have HXL := Aside0.mk hxl
        clear hxl
        by_cases hlt : i < ks.length
        · have hlt' : (i : Int) < (ks.length : Int) := by omega
          obtain ⟨pd, rfl, y0⟩ := at_P HCC.out i hlt
          have HKI : Aside0 (KindIs w0 ok ks[i] (gs.getD i 0)) := ⟨HKK.out i hlt⟩
          generalize gs.getD i 0 = gi at y0 HKI
          have HBr : Aside0 (Below w0.heap.size w0 wr) := ⟨HB.out.trans (HS.out.fr.to_below (fun k hk => by have h : k = gt := hk; omega) HB.out.size)⟩
          have y0' := cellB HBr.out y0
          obtain ⟨⟨x, b2, e2⟩, hr⟩ : ∃ r, takeS ks[i] b e' = r := ⟨_, rfl⟩
          have HBY2 : Aside0 (Byt b2 ∧ b2.length ≤ 2000000000000) := ⟨by
            have h := take_left ks[i] b e' HBY.out.1
            rw [hr] at h
            exact ⟨h.1, Nat.le_trans h.2 HBY.out.2⟩⟩
          have HTL2 := Aside0.mk (takeL_step hlt HTL.out hr)
          have HEAD : Aside0 (∀ W' : World, W'.heap = wr.heap → W'.os = wr.os → W'.tape = wr.tape → W'.output = wr.output → Calls Try.prog 80 #[.pointer (some ⟨gi, 0, none⟩), .pointer (some ⟨gt, 0, none⟩)] W' (TakeQ w0 wr gt (x, b2, e2))) := ⟨fun W' h1 h2 h3 h4 => by
            rw [← hr]
            refine (IH.out ks[i] (List.getElem_mem hlt) w0 W' ok gi gt b e' (below_same HBr.out h1 h2 h3 h4) HKI.out ?_ HBY.out.1 HBY.out.2 (H1.out _ (List.getElem_mem hlt)) (Nat.le_trans (HRL.out.2 _ (List.getElem_mem hlt)) HR64.out)).mono (fun E w' hq => hq.of_same h1 h2 h3 h4)
            obtain ⟨⟨A1, c1, hb, hc1, hC1⟩, hg1⟩ := HS.out.tk
            exact ⟨⟨A1, c1, by rw [h1]; exact hb, hc1, hC1⟩, hg1⟩⟩
          have p5 := HS.out.b5
          rw [HBN.out] at p5
          have q2 : wr.cell? ⟨bn + 1, 2, none⟩ = some (.slice A5 xs.length c5) := (blk_cell p5 2).trans rfl
          have HAL : Aside0 ((xs.length + 1) * 56 ≤ 140737488355328) := ⟨by have h1 := HXL.out; have h2 := HRL.out.1; have h3 := HR64.out; omega⟩
          have HBS := Aside0.mk (blk_lt p5)
          clear hr y0 p5
          go_upto_region 6 with fail
          go_region_law (first
            | (go_simp; go_at_call 80; refine (HEAD.out _ ?e1 ?e2 ?e3 ?e4).mono ?_; (case e1 => rfl); (case e2 => rfl); (case e3 => rfl); (case e4 => rfl); rintro E w2 ⟨v1, v2, rfl, hM, hT, hF⟩; have HS2 := Aside0.mk (HS.out.fr1 hF hT); have HM := Aside0.mk hM; have p5 := HS2.out.b5; rw [HBN.out] at p5; have y1 : w2.cell? ⟨bn + 1, 2, none⟩ = some (.slice A5 xs.length c5) := (blk_cell p5 2).trans rfl; have y2 : (w2.alloc (.cells #[.int .u64 x.f0, v1, v2] 105)).cell? ⟨bn + 1, 2, none⟩ = some (.slice A5 xs.length c5) := (blk_cell (blk_alloc p5 _) 2).trans rfl; have HFZ := Aside0.mk hF.size; clear hM hT hF p5)
            | (refine Kd.R_append_step k105 (w0 := w2) w.heap.size (by rfl) (.tmp 23) (.tmp 27) 103 105 (.agg #[(.int .u64 0), (.slice none 0 0), (.slice none 0 0)]) 56 rfl Try.underlying103 info105 rfl (by decide) (by omega) (.slice A5 xs.length c5) xs x [.int .u64 x.f0, v1, v2] (fun k => w.heap.size + 2 ≤ k) (fun k => wr.heap.size ≤ k) rfl rfl ?aP ?aK ?aF ?aO ?aB ?aS ?aL ?_; (case aP => exact k105.M_lower (by have := HBS.out; have := HBN.out; omega) HM.out); (case aK => exact fun k hk => ⟨by have := HBS.out; have := HBN.out; omega, fun e => by have := Kd.R_lt HS.out.r2 k e.symm; omega⟩); (case aF => exact fun k hk => by have := HBS.out; have := HBN.out; have := HFZ.out; omega); (case aO => exact HS2.out.r2); (case aB => exact Below.refl _ _); (case aS => have := HBS.out; have := HBN.out; have := HFZ.out; omega); (case aL => exact HAL.out); intro v5 w5 ho hb hg hat; obtain ⟨A6, c6, ev6⟩ := Kd.R_slice ho; subst ev6; have HS5 := Aside0.mk (HS2.out.app ho hg); have kk := blk_grown HS2.out.b5 hg (fun e => by have := HS2.out.r2.1 _ e.symm; omega); rw [HBN.out] at kk HS5; have z1 : w5.cell? ⟨bn + 1, 2, none⟩ = some (.slice A5 xs.length c5) := (blk_cell kk 2).trans rfl; have zf := blk_frozen kk 2; clear ho hb hg hat kk))
          all_goals
            go_wp2_with fail
            go_roundg (gk - 1)
            case measure => omega
            case rel => exact ⟨i + 1, _, A6, c6, b2, e2, by go_num, by omega, by simp; exact HXL.out, HTL2, HBY2, ⟨by have h := HS5.out; simp only [List.length_append, List.length_singleton] at h ⊢; exact h⟩⟩
        · have HE : Aside0 ((xs, b, e') = tot) := ⟨by
            have h := HTL.out
            rw [List.drop_of_length_le (by omega), takeL_nil] at h
            simpa using h⟩
          rw [← HE.out] at HRES
          go_upto_region 20 with fail
          have p4 := HS.out.b4
          have p5 := HS.out.b5
          rw [HBN.out] at p4 p5
          have m4 := blk_frozen p4 0
          have m6 := blk_frozen p4 1
          have m7 := blk_frozen p4 2
          have r0 : wr.cell? ⟨bn, 0, none⟩ = some (.int .u64 0) := (blk_cell p4 0).trans rfl
          have r1 : wr.cell? ⟨bn, 1, none⟩ = some (.slice none 0 0) := (blk_cell p4 1).trans rfl
          have r2 : wr.cell? ⟨bn, 2, none⟩ = some (.slice none 0 0) := (blk_cell p4 2).trans rfl
          have q0 : wr.cell? ⟨bn + 1, 0, none⟩ = some (.int .u64 0) := (blk_cell p5 0).trans rfl
          have q1 : wr.cell? ⟨bn + 1, 1, none⟩ = some (.slice none 0 0) := (blk_cell p5 1).trans rfl
          have q2 : wr.cell? ⟨bn + 1, 2, none⟩ = some (.slice A5 xs.length c5) := (blk_cell p5 2).trans rfl
          clear p4 p5
          go_wp2_with fail
          refine bodyPost_ret (results_cell_row rfl _ _ bn 105 #[.int .u64 0, .slice none 0 0, .slice A5 xs.length c5] (0, 0) _ rfl (HS.out.fin HBN.out).1 Try.underlying105 rfl (by kernel_rfl)) rfl ?_
          rw [← HRES.out]
          exact (HS.out.fin HBN.out).2
theorem take_calls : ∀ (k : Sh), TakeC k
  | .mk c ks => take_step c ks (fun k hk => take_calls k)
termination_by k => SizeOf.sizeOf k
decreasing_by
  have := List.sizeOf_lt_of_mem hk
  simp
  omega
end Go.Proofs.Ytnkpleggmiamdaa.Mo
