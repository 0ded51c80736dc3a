/- Kept of the text MoR: what is reached (wip/tools/prune.py). -/
import Derived.Test.YtnkpleggmiamdaaVMoQ
namespace Go.Proofs.Ytnkpleggmiamdaa.Mo
open Go.RowKit Go.Maps Go.Proofs.YtnkpleggmiamdaaW.PrintWords Go.Proofs.YtnkpleggmiamdaaW.PrintLast Go.Proofs.YtnkpleggmiamdaaW.PrintMore
open Go.Proofs.Ytnkpleggmiamdaa.PSessionParses Go.Proofs.Ytnkpleggmiamdaa.Mp
set_option linter.unusedVariables false
set_option linter.unusedSimpArgs false
mutual
/-- The form of a value that is of a shape. -/
def putS : Sh → S105 → List Int
  | .mk c ks, v => if c = 110 then numB v.f0 else if c = 98 then numB v.f1.length ++ v.f1 else if c = 42 then numB v.f2.length ++ putA ks v.f2 else putL ks v.f2
def putA : List Sh → List S105 → List Int
  | [], _ => []
  | k :: _, vs => (vs.map (putS k)).flatten
def putL : List Sh → List S105 → List Int
  | k :: ks, v :: vs => putS k v ++ putL ks vs
  | _, _ => []
end
theorem put_eq (c : Int) (ks : List Sh) (v : S105) : putS (.mk c ks) v = if c = 110 then numB v.f0 else if c = 98 then numB v.f1.length ++ v.f1 else if c = 42 then numB v.f2.length ++ putA ks v.f2 else putL ks v.f2 := by
  conv => lhs; unfold putS
theorem putA_cons (k0 : Sh) (ks : List Sh) (vs : List S105) : putA (k0 :: ks) vs = (vs.map (putS k0)).flatten := by
  conv => lhs; unfold putA
theorem putL_step (ks : List Sh) (vs : List S105) (i : Nat) (h1 : i < ks.length) (h2 : i < vs.length) : putL (ks.drop i) (vs.drop i) = putS ks[i] vs[i] ++ putL (ks.drop (i + 1)) (vs.drop (i + 1)) := by
  rw [List.drop_eq_getElem_cons h1, List.drop_eq_getElem_cons h2]
  conv => lhs; unfold putL
theorem putL_end (ks : List Sh) (vs : List S105) (i : Nat) (h : vs.length ≤ i) : putL (ks.drop i) (vs.drop i) = [] := by
  rw [List.drop_of_length_le h]
  unfold putL
  split
  · next h1 => cases h1
  · rfl
theorem putA_step (k0 : Sh) (vs : List S105) (i : Nat) (h2 : i < vs.length) : ((vs.drop i).map (putS k0)).flatten = putS k0 vs[i] ++ ((vs.drop (i + 1)).map (putS k0)).flatten := by
  rw [List.drop_eq_getElem_cons h2, List.map_cons, List.flatten_cons]
inductive WfS : S105 → Prop
  | mk {v : S105} (h0 : 0 ≤ v.f0) (h1 : v.f0 < 18446744073709551616) (hk : ∀ x ∈ v.f2, WfS x) : WfS v
inductive LetS : Sh → Prop
  | mk {c : Int} {ks : List Sh} (hc : c = 110 ∨ c = 98 ∨ c = 42 ∨ c = 91) (hk : ∀ k ∈ ks, LetS k) : LetS (.mk c ks)
abbrev RB (w : World) (base : Nat) (ok : Nat → Prop) (u : Value) (l : List Int) : Prop := Kd.R (Kd.int .u8) 5 w base ok u l
structure PSt (w0 w : World) (P0 : Nat → Prop) (bn : Nat) (o : Obj) (W : World) (u : Value) (l : List Int) : Prop where
  b : Below w0.heap.size w0 W
  k : Kept w W P0
  r : RB W w0.heap.size (fun k => (P0 k ∨ bn ≤ k) ∧ k ≠ bn) u l
  x : W.heap[bn]? = some o
theorem PSt.start {w0 w : World} {P0 : Nat → Prop} {u : Value} {l : List Int} (hB : Below w0.heap.size w0 w) (hR : RB w w0.heap.size P0 u l) (o : Obj) : PSt w0 w P0 w.heap.size o (w.alloc o) u l :=
  ⟨hB.alloc hB.size _, (Kept.refl w P0).alloc o, Kd.R_alloc (Kd.R_mono (Kd.R_bound hR) (fun k hk => ⟨.inl hk.1, by have := hk.2.2.1; omega⟩)) o, blk_new w o⟩
theorem PSt.step {w0 w : World} {P0 : Nat → Prop} {bn : Nat} {o : Obj} {W W2 : World} {u u2 : Value} {l l2 : List Int} (h : PSt w0 w P0 bn o W u l) (hbn : w.heap.size = bn)
    (hR : RB W2 w0.heap.size (fun k => ((P0 k ∨ bn ≤ k) ∧ k ≠ bn) ∨ W.heap.size ≤ k) u2 l2) (hB : Below w0.heap.size w0 W2) (hK : Kept W W2 (fun k => (P0 k ∨ bn ≤ k) ∧ k ≠ bn)) : PSt w0 w P0 bn o W2 u2 l2 := by
  have hlt := blk_lt h.x
  refine ⟨hB, h.k.then_ hK (fun k hk => by
    rcases hk.1 with h1 | h1
    · exact .inl h1
    · exact .inr (by omega)), Kd.R_mono hR (fun k hk => ?_), (hK.2 bn hlt (fun hk => hk.2 rfl)).trans h.x⟩
  rcases hk with hk | hk
  · exact hk
  · have hk' : W.heap.size ≤ k := hk
    exact ⟨.inr (by omega), by omega⟩
theorem PSt.under {w0 w : World} {P0 : Nat → Prop} {bn : Nat} {o : Obj} {W W2 : World} {u : Value} {l : List Int} (h : PSt w0 w P0 bn o W u l) (hb : Below W.heap.size W W2) : PSt w0 w P0 bn o W2 u l :=
  ⟨h.b.trans (hb.mono h.b.size), h.k.below hb, Kd.R_below h.r hb, (hb.block bn (blk_lt h.x)).trans h.x⟩
def PutQ (w0 w : World) (P0 : Nat → Prop) (l : List Int) (e : Ending) (w' : World) : Prop :=
  ∃ v0 : Value, e = .returned v0 ∧ RB w' w0.heap.size (fun k => P0 k ∨ w.heap.size ≤ k) v0 l ∧ Below w0.heap.size w0 w' ∧ Kept w w' P0
theorem PSt.done {w0 w : World} {P0 : Nat → Prop} {bn : Nat} {o : Obj} {W : World} {u : Value} {l : List Int} (h : PSt w0 w P0 bn o W u l) (hbn : w.heap.size = bn) : PutQ w0 w P0 l (.returned u) W :=
  ⟨u, rfl, Kd.R_mono h.r (fun k hk => by rw [hbn]; exact hk.1), h.b, h.k⟩
def PutC (k : Sh) : Prop := ∀ (w0 w : World) (P0 : Nat → Prop) (u : Value) (l : List Int) (ok : Nat → Prop) (g : Nat), Below w0.heap.size w0 w → KindIs w0 ok k g → ∀ (v : S105) (A1 : Option Addr) (c1 : Nat) (A2 : Option Addr) (c2 : Nat), ValIs w0 v A1 c1 A2 c2 →
  WfS v → hasS k v = true → l.length + (putS k v).length ≤ 140737488355328 → RB w w0.heap.size P0 u l →
  Calls Try.prog 89 #[.pointer (some ⟨g, 0, none⟩), u, .agg #[.int .u64 v.f0, .slice A1 v.f1.length c1, .slice A2 v.f2.length c2]] w (PutQ w0 w P0 (l ++ putS k v))
theorem num_calls {w0 W : World} {Q : Nat → Prop} {u : Value} {l : List Int} {n : Int} (hB : Below w0.heap.size w0 W) (hR : RB W w0.heap.size Q u l) (h0 : 0 ≤ n) (h1 : n < 18446744073709551616) (hl : l.length + (numB n).length ≤ 140737488355328) :
    Calls Try.prog 104 #[u, .int .u64 n] W (PutQ w0 W Q (l ++ numB n)) :=
  mould_number.calls 10 Q u l n (l ++ numB n) w0 W hB hR (number_val h0 h1 l hl 10 (Nat.le_refl _))
theorem below_same {B : Nat} {w W W2 : World} (h : Below B w W) (h1 : W2.heap = W.heap) (h2 : W2.os = W.os) (h3 : W2.tape = W.tape) (h4 : W2.output = W.output) : Below B w W2 :=
  h.trans ⟨h2, h3, h4, by rw [h1]; exact Nat.le_refl _, fun k _ => by rw [h1]⟩
theorem PutQ.of_same {w0 w w1 : World} {P0 : Nat → Prop} {l : List Int} {e : Ending} {w' : World} (h : PutQ w0 w1 P0 l e w') (h1 : w1.heap = w.heap) : PutQ w0 w P0 l e w' := by
  obtain ⟨v0, a, b, c, d⟩ := h
  rw [h1] at b
  refine ⟨v0, a, b, c, ?_⟩
  unfold Kept at d ⊢
  rw [h1] at d
  exact d
theorem PSt.grown {w0 w : World} {P0 : Nat → Prop} {bn : Nat} {o : Obj} {W W2 : World} {u u2 : Value} {l l2 : List Int} (h : PSt w0 w P0 bn o W u l) (hbn : w.heap.size = bn)
    (hR : RB W2 w0.heap.size (fun k => (P0 k ∨ bn ≤ k) ∧ k ≠ bn) u2 l2) (hB : Below w0.heap.size w0 W2) (hg : W.grownBy W2 u.ownBlock) : PSt w0 w P0 bn o W2 u2 l2 :=
  ⟨hB, Kept.of_grown hg h.k (fun k hk => by
    rcases (h.r.1 k hk).1 with h1 | h1
    · exact .inl h1
    · exact .inr (by omega)), hR, blk_grown h.x hg (fun e => (h.r.1 bn e.symm).2 rfl)⟩
theorem hasL_at : ∀ (ks : List Sh) (vs : List S105), hasL ks vs = true → ∀ (i : Nat) (h1 : i < ks.length) (h2 : i < vs.length), hasS ks[i] vs[i] = true
  | [], _, _, i, h1, _ => by simp at h1
  | _, [], _, i, _, h2 => by simp at h2
  | k :: ks, v :: vs, h, 0, _, _ => by
    unfold hasL at h
    rw [Bool.and_eq_true] at h
    exact h.1
  | k :: ks, v :: vs, h, i + 1, h1, h2 => by
    unfold hasL at h
    rw [Bool.and_eq_true] at h
    exact hasL_at ks vs h.2 i (by simpa using h1) (by simpa using h2)
theorem u64_len {n : Nat} (h : n ≤ 9223372036854775807) : IntKind.u64.wrap (n : Int) = (n : Int) := by
  simp [IntKind.wrap, IntKind.signed, IntKind.bits]
  omega
set_option maxHeartbeats 8000000 in
set_option maxRecDepth 100000 in
theorem put_step (c : Int) (ks : List Sh) (ih : ∀ k ∈ ks, PutC k) (hc : c = 110 ∨ c = 98 ∨ c = 42 ∨ c = 91) : PutC (.mk c ks) := by
  intro w0 w P0 u l ok g hB hK v A1 c1 A2 c2 hV hWf hH hL hR
  have HS := Aside0.mk (PSt.start hB hR (.cells #[.int .u64 v.f0, .slice A1 v.f1.length c1, .slice A2 v.f2.length c2] 105))
  have HK0 := Aside0.mk hK
  have HV0 := Aside0.mk hV
  have HWF := Aside0.mk hWf
  have IH := Aside0.mk ih
  have HC := Aside0.mk hc
  obtain ⟨tot, htot⟩ : ∃ tot, l ++ putS (.mk c ks) v = tot := ⟨_, rfl⟩
  have HT := Aside0.mk htot
  rw [← List.length_append, htot] at hL
  have HL := Aside0.mk hL
  rw [put_eq] at htot
  rw [has_eq] at hH
  have HTQ := Aside0.mk htot
  have HH := Aside0.mk hH
  clear hB hK hV hWf ih hc htot hH hL hR
  go_enter Try.func89, Try.ntmps89
  go_upto_region 1 with fail
  generalize w.alloc (.cells #[.int .u64 v.f0, .slice A1 v.f1.length c1, .slice A2 v.f2.length c2] 105) = W at HS ⊢
  generalize hbn : w.heap.size = bn at HS ⊢
  have n1 : W.cell? ⟨bn, 0, none⟩ = some (.int .u64 v.f0) := (blk_cell HS.out.x 0).trans rfl
  have n2 : W.cell? ⟨bn, 1, none⟩ = some (.slice A1 v.f1.length c1) := (blk_cell HS.out.x 1).trans rfl
  have n3 : W.cell? ⟨bn, 2, none⟩ = some (.slice A2 v.f2.length c2) := (blk_cell HS.out.x 2).trans rfl
  have hKW := HK0.out
  clear HK0
  cases hKW with
  | mk hg hb hC hA hcap hw hk =>
    rename_i A cap gs
    have k0 : W.cell? ⟨g, 0, none⟩ = some (.int .u8 c) := cellB HS.out.b ((blk_cell hb 0).trans rfl)
    have k1 : W.cell? ⟨g, 1, none⟩ = some (.slice A ks.length cap) := cellB HS.out.b ((blk_cell hb 1).trans rfl)
    have HKB := Aside0.mk hb
    have HCC := Aside0.mk hC
    have HKK := Aside0.mk hk
    have HW := Aside0.mk hw
    have hmax := hC.2.1
    clear hg hb hC hA hcap hk hw
    by_cases h110 : c = 110
    · subst h110
      rw [if_pos rfl] at HTQ
      have HN := Aside0.mk (num_calls HS.out.b HS.out.r (n := v.f0) (by cases HWF.out; assumption) (by cases HWF.out; assumption) (by rw [← List.length_append, HTQ.out]; exact HL.out))
      go_wp2_with fail
      refine HN.out.mono ?_
      rintro e w2 ⟨u2, rfl, a, b, d⟩
      have HS2 := Aside0.mk (HS.out.step hbn a b d)
      rw [HTQ.out] at HS2
      clear a b d HN n1 n2 n3 k0 k1
      go_wp2_with fail
      go_ret
      rw [HT.out]
      exact HS2.out.done hbn
    · have t110 : (c == (110 : Int)) = false := by simpa using h110
      rw [if_neg h110] at HTQ
      by_cases h98 : c = 98
      · subst h98
        rw [if_pos rfl] at HTQ
        have hmb := HV0.out.b.2.1
        have hu := u64_len hmb
        have HLL : Aside0 (l.length + (numB (v.f1.length : Int)).length + v.f1.length ≤ 140737488355328) := ⟨by have := HL.out; rw [← HTQ.out] at this; simp only [List.length_append] at this; omega⟩
        have HEAD : Aside0 (∀ W' : World, W'.heap = W.heap → W'.os = W.os → W'.tape = W.tape → W'.output = W.output → ∀ n' : Int, n' = (v.f1.length : Int) → Calls Try.prog 104 #[u, .int .u64 n'] W' (PutQ w0 W (fun k => (P0 k ∨ bn ≤ k) ∧ k ≠ bn) (l ++ numB (v.f1.length : Int)))) := ⟨fun W' h1 h2 h3 h4 n' hn => by
          subst hn
          exact (num_calls (below_same HS.out.b h1 h2 h3 h4) (Kd.R_step HS.out.r (fun k _ _ => by rw [h1])) (by omega) (by omega) (by have := HLL.out; omega)).mono (fun e w' hq => hq.of_same h1)⟩
        go_wp2_with fail
        go_region_law (first
          | (go_simp; go_at_call 104; refine (HEAD.out _ ?e1 ?e2 ?e3 ?e4 _ ?e0).mono ?_; (case e1 => rfl); (case e2 => rfl); (case e3 => rfl); (case e4 => rfl); (case e0 => (first | rfl | exact hu)); rintro e w2 ⟨u2, rfl, a, b, d⟩; have HS2 := Aside0.mk (HS.out.step hbn a b d); have y2 : w2.cell? ⟨bn, 1, none⟩ = some (.slice A1 v.f1.length c1) := (blk_cell HS2.out.x 1).trans rfl; clear a b d)
          | (refine Kd.R_append_rows_step (Kd.int .u8) (w0 := w0) w0.heap.size (by rfl) (.tmp 28) (.tmp 30) 26 5 (.int .u8 0) 1 rfl Try.underlying26 info5 rfl (by decide) (by decide) u2 (l ++ numB (v.f1.length : Int)) v.f1 _ _ _ (fun k => (P0 k ∨ bn ≤ k) ∧ k ≠ bn) (fun _ => False) rfl rfl ?aO ?aR (fun _ _ h => h) (fun _ h => h.elim) ?aF ?aB ?aS ?aL ?_; (case aO => exact HS2.out.r); (case aR => exact Kd.C_below HV0.out.b HS2.out.b); (case aF => exact fun k hk => by have := blk_lt HS2.out.x; omega); (case aB => exact HS2.out.b); (case aS => exact HS2.out.b.size); (case aL => have := HLL.out; simp only [List.length_append]; omega); intro v1 w5 ho hb hg hat; have HS5 := Aside0.mk (HS2.out.grown hbn ho hb hg); clear ho hb hg hat))
        all_goals
          go_wp2_with fail
          go_ret
          rw [HT.out]
          rw [List.append_assoc, HTQ.out] at HS5
          exact HS5.out.done hbn
      · have t98 : (c == (98 : Int)) = false := by simpa using h98
        rw [if_neg h98] at HTQ
        by_cases h42 : c = 42
        · subst h42
          rw [if_pos rfl] at HTQ HH
          have hpos := HW.out rfl
          cases ks with
          | nil => exact absurd hpos (by simp)
          | cons k0' ks' =>
          rw [putA_cons] at HTQ
          rw [hasA_cons] at HH
          have hmb := HV0.out.l.2.1
          obtain ⟨pd, rfl, y0⟩ := at_P HCC.out 0 (by simp)
          have HKI : Aside0 (KindIs w0 ok k0' (gs.getD 0 0)) := ⟨HKK.out 0 (by simp)⟩
          generalize gs.getD 0 0 = gi at y0 HKI
          have HKB2 := HKB
          have HY : Aside0 (w0.cell? pd = some (.pointer (some ⟨gi, 0, none⟩))) := ⟨y0⟩
          have y0w := cellB HS.out.b y0
          clear HKK HCC hmax HW HKB y0
          have HLL : Aside0 (l.length + (numB (v.f2.length : Int)).length ≤ 140737488355328) := ⟨by have := HL.out; rw [← HTQ.out] at this; simp only [List.length_append] at this; omega⟩
          have HN := Aside0.mk (num_calls HS.out.b HS.out.r (n := (v.f2.length : Int)) (by omega) (by omega) HLL.out)
          have IH0 := Aside0.mk (IH.out k0' (by simp))
          have hu := u64_len hmb
          have hp1 : (0 : Int) < ((k0' :: ks').length : Int) := by simp only [List.length_cons]; omega
          generalize (k0' :: ks').length = nk at k1 hpos hp1 HKB2
          have hp2 : 0 < nk := by omega
          go_upto_region 7 with fail
          go_wp2_with fail
          refine HN.out.mono ?_
          rintro e w2 ⟨u2, rfl, a, b, d⟩
          have HS2 := Aside0.mk (HS.out.step hbn a b d)
          have HTI : Aside0 (l ++ numB (v.f2.length : Int) ++ ((v.f2.drop 0).map (putS k0')).flatten = tot) := ⟨by rw [List.append_assoc]; exact HTQ.out⟩
          generalize l ++ numB (v.f2.length : Int) = l2 at HS2 HTI
          clear a b d HN n1 n2 n3 k0 k1 HTQ y0w
          have m3 : w2.cell? ⟨bn, 2, none⟩ = some (.slice A2 v.f2.length c2) := (blk_cell HS2.out.x 2).trans rfl
          go_wp2_with fail
          go_loopg [1, 8, 43] v.f2.length (fun kq v1 v8 v43 wr => ∃ (i : Nat) (li : List Int) (ub : Value), v1 = ub ∧ v43 = .int .i64 i ∧ i + kq = v.f2.length ∧ Aside0 (li ++ ((v.f2.drop i).map (putS k0')).flatten = tot) ∧ Aside0 (PSt w0 w P0 bn (.cells #[.int .u64 v.f0, .slice A1 v.f1.length c1, .slice A2 v.f2.length c2] 105) wr ub li))
          case atStart => exact ⟨0, _, _, rfl, rfl, by omega, HTI, HS2⟩
          case round =>
            obtain ⟨i, li, ub, hub, rfl, hi, HTL, HS⟩ := hrel
            replace hub := hub.symm
            subst hub
            by_cases hlt : i < v.f2.length
            · have hlt' : (i : Int) < (v.f2.length : Int) := by omega
              obtain ⟨ad, B1, d1, B2, d2, rfl, x0, x1, x2, l1, g1, l2, g2⟩ := at_T105 HV0.out.l i (by omega) hlt'
              simp only [Int.toNat_natCast] at x0 x1 x2
              have y0 := HY.out
              have HUH : Aside0 (hasS k0' v.f2[i] = true) := ⟨List.all_eq_true.1 HH.out _ (List.getElem_mem hlt)⟩
              have HTS : Aside0 (li ++ putS k0' v.f2[i] ++ ((v.f2.drop (i + 1)).map (putS k0')).flatten = tot) := ⟨by rw [List.append_assoc, ← putA_step k0' v.f2 i hlt]; exact HTL.out⟩
              have HUW : Aside0 (WfS v.f2[i]) := ⟨by have h := HWF.out; cases h with | mk _ _ hk => exact hk _ (List.getElem_mem hlt)⟩
              have hrd : rd_T105 v.f2 (i : Int) = v.f2[i] := by simp [rd_T105, hlt]
              rw [hrd] at x0 x1 x2 l1 g1 l2 g2
              clear hrd
              generalize v.f2[i] = q at x0 x1 x2 l1 g1 l2 g2 HUH HTS HUW
              have HU : Aside0 (ValIs w0 q B1 d1 B2 d2) := ⟨⟨g1, l1, g2, l2⟩⟩
              have x0' := cellB HS.out.b x0
              have x1' := cellB HS.out.b x1
              have x2' := cellB HS.out.b x2
              have hA : Below wr.heap.size wr (wr.alloc (.cells #[.int .u64 q.f0, .slice B1 q.f1.length d1, .slice B2 q.f2.length d2] 105)) := (Below.refl _ _).alloc (Nat.le_refl _) _
              have HS3 := Aside0.mk (HS.out.under hA)
              have qn := blk_new wr (.cells #[.int .u64 q.f0, .slice B1 q.f1.length d1, .slice B2 q.f2.length d2] 105)
              clear hA g1 l1 g2 l2 x0 x1 x2
              go_upto_region 11 with fail
              generalize (wr.alloc (.cells #[.int .u64 q.f0, .slice B1 q.f1.length d1, .slice B2 q.f2.length d2] 105)) = W3 at HS3 qn ⊢
              generalize wr.heap.size = bx at qn ⊢
              have q0 : W3.cell? ⟨bx, 0, none⟩ = some (.int .u64 q.f0) := (blk_cell qn 0).trans rfl
              have q1 : W3.cell? ⟨bx, 1, none⟩ = some (.slice B1 q.f1.length d1) := (blk_cell qn 1).trans rfl
              have q2 : W3.cell? ⟨bx, 2, none⟩ = some (.slice B2 q.f2.length d2) := (blk_cell qn 2).trans rfl
              have q3 : W3.cell? ⟨g, 1, none⟩ = some (.slice (some pd) nk cap) := cellB HS3.out.b ((blk_cell HKB2.out 1).trans rfl)
              have q4 := cellB HS3.out.b y0
              have HC3 := Aside0.mk (IH0.out w0 W3.drew (fun k => (P0 k ∨ bn ≤ k) ∧ k ≠ bn) ub li ok gi HS3.out.b.drew HKI.out q B1 d1 B2 d2 HU.out HUW.out HUH.out (by have := HL.out; rw [← HTS.out] at this; simp only [List.length_append] at this; omega) (Kd.R_drew HS3.out.r))
              clear qn y0 x0' x1' x2' HS
              go_still_tail 8, (by kernel_rfl)
              go_wp2_with fail
              refine HC3.out.mono ?_
              rintro e w4 ⟨u4, rfl, a, b, d⟩
              have HS4 := Aside0.mk ((HS3.out.under ((Below.refl _ _).drew)).step hbn a b d)
              clear a b d HC3 q0 q1 q2 q3 q4 HS3
              go_wp2_with fail
              go_roundg (gk - 1)
              case measure => omega
              case rel => exact ⟨i + 1, _, _, rfl, by go_num, by omega, HTS, HS4⟩
            · have HE : Aside0 (li = tot) := ⟨by
                have h := HTL.out
                rw [List.drop_of_length_le (by omega)] at h
                simpa using h⟩
              go_wp2_with fail
              go_ret
              rw [HT.out]
              rw [HE.out] at HS
              exact HS.out.done hbn
        · have t42 : (c == (42 : Int)) = false := by simpa using h42
          have h91 : c = 91 := by have := HC.out; omega
          subst h91
          rw [if_neg (by decide)] at HTQ
          rw [if_neg (by decide), if_pos rfl, Bool.and_eq_true, decide_eq_true_iff] at HH
          have HLN := Aside0.mk HH.out.1
          replace HH : Aside0 (hasL ks v.f2 = true) := ⟨HH.out.2⟩
          have hmb := HV0.out.l.2.1
          have HTI : Aside0 (l ++ putL (ks.drop 0) (v.f2.drop 0) = tot) := HTQ
          have HS2 := HS
          clear HTQ
          go_upto_region 7 with fail
          go_wp2_with fail
          go_loopg [1, 9, 10, 61] v.f2.length (fun kq v1 v9 v10 v61 wr => ∃ (i : Nat) (li : List Int) (ub : Value), v1 = ub ∧ v61 = .int .i64 i ∧ i + kq = v.f2.length ∧ Aside0 (li ++ putL (ks.drop i) (v.f2.drop i) = tot) ∧ Aside0 (PSt w0 w P0 bn (.cells #[.int .u64 v.f0, .slice A1 v.f1.length c1, .slice A2 v.f2.length c2] 105) wr ub li))
          case atStart => exact ⟨0, _, _, rfl, rfl, by omega, HTI, HS2⟩
          case round =>
            obtain ⟨i, li, ub, hub, rfl, hi, HTL, HS⟩ := hrel
            replace hub := hub.symm
            subst hub
            by_cases hlt : i < v.f2.length
            · have hlt' : (i : Int) < (v.f2.length : Int) := by omega
              have hltk : i < ks.length := by have := HLN.out; omega
              have hltk' : (i : Int) < (ks.length : Int) := by omega
              obtain ⟨ad, B1, d1, B2, d2, rfl, x0, x1, x2, l1, g1, l2, g2⟩ := at_T105 HV0.out.l i (by omega) hlt'
              simp only [Int.toNat_natCast] at x0 x1 x2
              obtain ⟨pd, rfl, y0⟩ := at_P HCC.out i hltk
              have HKI : Aside0 (KindIs w0 ok ks[i] (gs.getD i 0)) := ⟨HKK.out i hltk⟩
              have IH0 := Aside0.mk (IH.out ks[i] (List.getElem_mem hltk))
              generalize gs.getD i 0 = gi at y0 HKI
              have HUH : Aside0 (hasS ks[i] v.f2[i] = true) := ⟨hasL_at ks v.f2 HH.out i hltk hlt⟩
              have HTS : Aside0 (li ++ putS ks[i] v.f2[i] ++ putL (ks.drop (i + 1)) (v.f2.drop (i + 1)) = tot) := ⟨by rw [List.append_assoc, ← putL_step ks v.f2 i hltk hlt]; exact HTL.out⟩
              have HUW : Aside0 (WfS v.f2[i]) := ⟨by have h := HWF.out; cases h with | mk _ _ hk => exact hk _ (List.getElem_mem hlt)⟩
              have hrd : rd_T105 v.f2 (i : Int) = v.f2[i] := by simp [rd_T105, hlt]
              rw [hrd] at x0 x1 x2 l1 g1 l2 g2
              clear hrd
              generalize v.f2[i] = q at x0 x1 x2 l1 g1 l2 g2 HUH HTS HUW
              have HU : Aside0 (ValIs w0 q B1 d1 B2 d2) := ⟨⟨g1, l1, g2, l2⟩⟩
              have x0' := cellB HS.out.b x0
              have x1' := cellB HS.out.b x1
              have x2' := cellB HS.out.b x2
              have hA : Below wr.heap.size wr (wr.alloc (.cells #[.int .u64 q.f0, .slice B1 q.f1.length d1, .slice B2 q.f2.length d2] 105)) := (Below.refl _ _).alloc (Nat.le_refl _) _
              have HS3 := Aside0.mk (HS.out.under hA)
              have qn := blk_new wr (.cells #[.int .u64 q.f0, .slice B1 q.f1.length d1, .slice B2 q.f2.length d2] 105)
              clear hA g1 l1 g2 l2 x0 x1 x2
              go_upto_region 17 with fail
              generalize (wr.alloc (.cells #[.int .u64 q.f0, .slice B1 q.f1.length d1, .slice B2 q.f2.length d2] 105)) = W3 at HS3 qn ⊢
              generalize wr.heap.size = bx at qn ⊢
              have q0 : W3.cell? ⟨bx, 0, none⟩ = some (.int .u64 q.f0) := (blk_cell qn 0).trans rfl
              have q1 : W3.cell? ⟨bx, 1, none⟩ = some (.slice B1 q.f1.length d1) := (blk_cell qn 1).trans rfl
              have q2 : W3.cell? ⟨bx, 2, none⟩ = some (.slice B2 q.f2.length d2) := (blk_cell qn 2).trans rfl
              have q3 : W3.cell? ⟨g, 1, none⟩ = some (.slice (some pd) ks.length cap) := cellB HS3.out.b ((blk_cell HKB.out 1).trans rfl)
              have q4 := cellB HS3.out.b y0
              have HC3 := Aside0.mk (IH0.out w0 W3.drew (fun k => (P0 k ∨ bn ≤ k) ∧ k ≠ bn) ub li ok gi HS3.out.b.drew HKI.out q B1 d1 B2 d2 HU.out HUW.out HUH.out (by have := HL.out; rw [← HTS.out] at this; simp only [List.length_append] at this; omega) (Kd.R_drew HS3.out.r))
              clear qn y0 x0' x1' x2' HS
              go_still_tail 9, (by kernel_rfl)
              go_wp2_with fail
              refine HC3.out.mono ?_
              rintro e w4 ⟨u4, rfl, a, b, d⟩
              have HS4 := Aside0.mk ((HS3.out.under ((Below.refl _ _).drew)).step hbn a b d)
              clear a b d HC3 q0 q1 q2 q3 q4 HS3
              go_wp2_with fail
              go_roundg (gk - 1)
              case measure => omega
              case rel => exact ⟨i + 1, _, _, rfl, by go_num, by omega, HTS, HS4⟩
            · have HE : Aside0 (li = tot) := ⟨by
                have h := HTL.out
                rw [putL_end ks v.f2 i (by omega)] at h
                simpa using h⟩
              go_wp2_with fail
              go_ret
              rw [HT.out]
              rw [HE.out] at HS
              exact HS.out.done hbn
theorem put_calls : ∀ (k : Sh), LetS k → PutC k
  | .mk c ks, h => put_step c ks (fun k hk => put_calls k (by cases h with | mk _ h2 => exact h2 k hk)) (by cases h with | mk h1 _ => exact h1)
termination_by k => SizeOf.sizeOf k
decreasing_by
  have := List.sizeOf_lt_of_mem hk
  simp
  omega
end Go.Proofs.Ytnkpleggmiamdaa.Mo
