/- Kept of the text Py2: what is reached (wip/tools/prune.py). -/
import Derived.Test.YtcdlccnpbhjgkaaVPy1
import Derived.Deep.RegionHeld3
namespace Go.Proofs.Ytcdlccnpbhjgkaa.Oo
open Go.RowKit Go.Maps Go.Proofs.YtcdlccnpbhjgkaaW.PrintWords Go.Proofs.YtcdlccnpbhjgkaaW.PrintLast Go.Proofs.YtcdlccnpbhjgkaaW.PrintMore
open Go.Proofs.Ytcdlccnpbhjgkaa.POrderBytes Go.Proofs.Ytcdlccnpbhjgkaa.Mp
set_option linter.unusedVariables false
set_option linter.unusedSimpArgs false
def Wfl (f : List Int → Int → S33 × List Int × Int) : Prop := ∀ bs e, Byt bs → WfS (f bs e).1
theorem rep_wf {f : List Int → Int → S33 × List Int × Int} (hf : Wfl f) (hl : Lft f) : ∀ n bs e, Byt bs → ∀ x ∈ (repT f n bs e).1, WfS x
  | 0, bs, e, h => fun x hx => by simp [repT] at hx
  | n + 1, bs, e, h => fun x hx => by
    unfold repT at hx
    split at hx
    · rcases List.mem_cons.1 hx with rfl | hx
      · exact hf bs e h
      · exact rep_wf hf hl n _ _ (hl bs e h).1 x hx
    · simp only [List.mem_singleton] at hx
      subst hx
      exact hf bs e h
mutual
theorem take_wf : ∀ k : Sh, Wfl (takeS k)
  | .mk c ks => fun bs e h => by
    have hn := numS_range e h
    have hL := takeL_wf ks bs e h
    have hA := takeA_wf ks bs e h
    rw [take_eq]
    split
    · exact .mk hn.1 hn.2.1 (fun x hx => by simp at hx)
    · split
      · exact .mk (by show (0 : Int) ≤ 0; decide) (by show (0 : Int) < _; decide) (fun x hx => by simp at hx)
      · split
        · exact .mk (by show (0 : Int) ≤ 0; decide) (by show (0 : Int) < _; decide) hA
        · exact .mk (by show (0 : Int) ≤ 0; decide) (by show (0 : Int) < _; decide) hL
theorem takeA_wf : ∀ (ks : List Sh) (bs : List Int) (e : Int), Byt bs → ∀ x ∈ (takeA ks bs e).1, WfS x
  | [], bs, e, h => fun x hx => by unfold takeA at hx; simp at hx
  | k :: ks, bs, e, h => by
    have hc := cntS_range (sm := someS k) e h
    rw [takeA_cons]
    exact rep_wf (take_wf k) (take_left k) _ _ _ hc.2.2.2.2.1
theorem takeL_wf : ∀ (ks : List Sh) (bs : List Int) (e : Int), Byt bs → ∀ x ∈ (takeL ks bs e).1, WfS x
  | [], bs, e, h => fun x hx => by rw [takeL_nil] at hx; simp at hx
  | k :: ks, bs, e, h => by
    have h1 := take_left k bs e h
    rw [takeL_cons]
    intro x hx
    rcases List.mem_cons.1 hx with rfl | hx
    · exact take_wf k bs e h
    · exact takeL_wf ks _ _ h1.1 x hx
end
theorem rep_len (f : List Int → Int → S33 × List Int × Int) : ∀ n b e, (repT f n b e).1.length ≤ n
  | 0, b, e => by simp [repT]
  | n + 1, b, e => by
    unfold repT
    split
    · have := rep_len f n (f b e).2.1 (f b e).2.2
      simp only [List.length_cons]
      omega
    · simp
theorem takeL_len : ∀ (ks : List Sh) b e, (takeL ks b e).1.length = ks.length
  | [], b, e => by rw [takeL_nil]; rfl
  | k :: ks, b, e => by
    rw [takeL_cons]
    simp only [List.length_cons]
    rw [takeL_len ks]
theorem rep_mem {p : S33 → Prop} {f : List Int → Int → S33 × List Int × Int} (hf : ∀ b e, p (f b e).1) : ∀ n b e, ∀ x ∈ (repT f n b e).1, p x
  | 0, b, e => fun x hx => by simp [repT] at hx
  | n + 1, b, e => fun x hx => by
    unfold repT at hx
    split at hx
    · rcases List.mem_cons.1 hx with rfl | hx
      · exact hf b e
      · exact rep_mem hf n _ _ x hx
    · simp only [List.mem_singleton] at hx
      subst hx
      exact hf b e
theorem rows_shape {j : Nat} (hj : 0 < j) {bs : List Int} (e : Int) (hx : Byt bs) : (takeS (kRows j) bs e).1.f2.length ≤ bs.length ∧ ∀ x ∈ (takeS (kRows j) bs e).1.f2, x.f2.length = j := by
  unfold kRows
  have hc := cntS_range (sm := true) e hx
  rw [take_eq, if_neg (by decide), if_neg (by decide), if_pos rfl, takeA_cons, some_row hj]
  refine ⟨?_, ?_⟩
  · have := rep_len (takeS (kRow j)) (cntS true bs e).1.toNat (cntS true bs e).2.1 (cntS true bs e).2.2
    have h2 := hc.2.2.1 rfl
    have h3 := hc.2.2.2.2.2
    simp only
    omega
  · refine rep_mem (fun b e' => ?_) _ _ _
    unfold kRow
    rw [take_eq, if_neg (by decide), if_neg (by decide), if_neg (by decide)]
    simp only
    rw [takeL_len, List.length_replicate]
theorem top_shape {l : List UInt8} {j : Nat} (hp : parseF l = some (kRows j)) (hj : 0 < j) {bs : List Int} (hx : Byt bs) : (takeTop l bs).1.f2.length ≤ bs.length ∧ (∀ x ∈ (takeTop l bs).1.f2, x.f2.length = j) ∧ WfS (takeTop l bs).1 := by
  have h := rows_shape hj 0 hx
  have hw := take_wf (kRows j) bs 0 hx
  have hz : WfS ⟨0, [], []⟩ := .mk (by decide) (by decide) (fun x hx => by simp at hx)
  unfold takeTop
  rw [hp]
  simp only
  split
  · split
    · exact ⟨h.1, h.2, hw⟩
    · exact ⟨by simp, by simp, hz⟩
  · exact ⟨by simp, by simp, hz⟩
theorem take_any {α : Type} (p : α → Bool) (xs : List α) (i : Nat) (h : i < xs.length) : (xs.take (i + 1)).any p = ((xs.take i).any p || p xs[i]) := any_take p xs i h
abbrev kL : Kd (List Int) := Kd.slice 3 (Kd.int .i64)
def bigR (x : S33) : Bool := x.f2.any fun y => decide (1099511627776 ≤ y.f0)
def OTakeQ (r : List (List Int) × Int) (w : World) (e : Ending) (w' : World) : Prop :=
  Below w.heap.size w w' ∧ ∃ A' c', e = .returned (.tuple #[.slice A' r.1.length c', .int .i64 r.2]) ∧ r.1.length ≤ c' ∧ kL.C w' A' r.1.length r.1
theorem OTakeQ.err (e : Int) {w w' : World} (h : Below w.heap.size w w') : OTakeQ ([], e) w (.returned (.tuple #[.slice none 0 0, .int .i64 e])) w' := ⟨h, none, 0, rfl, Nat.le_refl _, Kd.C_nil _ _⟩
theorem info46 : (Try.prog.info? 46).map (fun i => (i.zero, i.size, i.bytes)) = some (some (.slice none 0 0), 1, 24) := by kernel_rfl
theorem info3 : (Try.prog.info? 3).map (fun i => (i.zero, i.size, i.bytes)) = some (some (.int .i64 0), 1, 8) := by kernel_rfl
set_option maxHeartbeats 4000000 in
set_option maxRecDepth 100000 in
theorem otake_calls (tag : Int) (l : List UInt8) (j : Nat) (hp : parseF l = some (kRows j)) (hj0 : 0 < j) (hj10 : j ≤ 10) (bs : List Int) (A : Option Addr) (c : Nat) (w : World) (hC : (Kd.int .u8).C w A bs.length bs) (hc : bs.length ≤ c) (hx : Byt bs) (hn : bs.length ≤ 100000) :
    Calls Try.prog 85 #[.int .u8 tag, .string (str l), .slice A bs.length c] w (OTakeQ (takeO l tag bs) w) := by
  have HC := Aside0.mk hC
  cases bs with
  | nil =>
    clear hC
    generalize str l = sb
    go_enter Try.func85, Try.ntmps85
    go_wp2_with fail
    go_ret2
    exact OTakeQ.err 11 (Below.refl _ _)
  | cons t r =>
    obtain ⟨ad, rfl, x0⟩ := Kd.at_int hC 0 (by omega) (by simp)
    have x0' : w.cell? ad = some (.int .u8 t) := x0
    have hr0 : Byt r := fun x h => hx x (by simp [h])
    obtain ⟨n, hnn⟩ : ∃ n, (t :: r).length = n := ⟨_, rfl⟩
    have hrl : r.length + 1 = n := by rw [← hnn]; simp
    have hn1 : 1 ≤ n := by omega
    have hmax : n ≤ 9223372036854775807 := by rw [← hnn]; exact hC.2.1
    have tl : ((n : Int) == 0) = false := by
      have : (n : Int) ≠ 0 := by omega
      simpa using this
    by_cases ht : t = tag
    · subst ht
      have tt : (t != t) = false := by simp
      obtain ⟨i5v, i5, i5s⟩ := i5x
      have hm2 := cut_from (P := Try.prog) 27 5 .i64 Try.underlying27 i5 1 i5s (some ad) (t :: r).length c 1 (by omega) (by omega)
      have hC2 := Kd.C_drop (m := 1) (c := c) hC (by omega) hc
      have hz : (Kd.int .u8).sz = 1 := rfl
      have e2 : Int.toNat 1 = 1 := rfl
      rw [hz] at hC2
      rw [e2] at hm2
      replace hC2 : (Kd.int .u8).C w (if c = 1 then some ad else (some ad).map (·.add (1 * 1))) r.length r := hC2
      have hr1 : (t :: r).length - 1 = r.length := by simp
      rw [hr1, hnn] at hm2
      rw [hnn] at hc hn ⊢
      generalize (if c = 1 then some ad else (some ad).map (·.add (1 * 1))) = A2 at hm2 hC2
      have HT := Aside0.mk (taketop_calls l r A2 (c - 1) w hC2 (by omega) hr0 (by omega))
      obtain ⟨s1, s2, s3⟩ := top_shape hp hj0 hr0
      have HTO : Aside0 (takeO l t (t :: r) = if (takeTop l r).2 ≠ 0 then ([], (takeTop l r).2) else if bigV (takeTop l r).1 then ([], 13) else (numsOf (takeTop l r).1, 0)) := ⟨by unfold takeO; simp⟩
      obtain ⟨⟨v, er⟩, hv⟩ : ∃ q, takeTop l r = q := ⟨_, rfl⟩
      rw [hv] at HT s1 s2 s3 HTO
      simp only at s1 s2 s3 HTO
      have hvl : v.f2.length ≤ 100000 := by omega
      obtain ⟨res, hres⟩ : ∃ res, takeO l t (t :: r) = res := ⟨_, rfl⟩
      rw [hres] at HTO ⊢
      have HS2 := Aside0.mk s2
      have HS3 := Aside0.mk s3
      clear hC2 hr0 x0 hC HC hx hnn hrl hr1 s1 s2 s3 hv hz e2 i5 i5s hres hp
      generalize r.length = m at hm2 HT
      generalize str l = sb at HT ⊢
      go_enter Try.func85, Try.ntmps85
      go_wp2_with fail
      refine HT.out.mono ?_
      rintro E w1 hq
      obtain ⟨hB, A3, c3, A4, c4, rfl, hc3, hC3, hc4, hC4⟩ := take_ok hq
      simp only at hc3 hC3 hc4 hC4 ⊢
      have HB1 := Aside0.mk hB
      have hN := blk_new w1 (.cells #[.int .u64 v.f0, .slice A3 v.f1.length c3, .slice A4 v.f2.length c4] 33)
      have HBN : Aside0 (Below w1.heap.size w1 (w1.alloc (.cells #[.int .u64 v.f0, .slice A3 v.f1.length c3, .slice A4 v.f2.length c4] 33))) := ⟨(Below.refl _ _).alloc (Nat.le_refl _) _⟩
      have HC4 := Aside0.mk (Kd.C_below hC4 HBN.out)
      have HB2 := Aside0.mk (HB1.out.trans (HBN.out.mono HB1.out.size))
      clear hq hB hc3 hC3 hC4 HT HB1 HBN
      go_upto_region 6 with fail
      generalize w1.alloc (.cells #[.int .u64 v.f0, .slice A3 v.f1.length c3, .slice A4 v.f2.length c4] 33) = W2 at hN HC4 HB2 ⊢
      have n2 : W2.cell? ⟨w1.heap.size, 2, none⟩ = some (.slice A4 v.f2.length c4) := (blk_cell hN 2).trans rfl
      clear hN
      by_cases he : er = 0
      · subst he
        rw [if_neg (by simp)] at HTO
        go_wp2_with fail
        clear n2 x0' tl
        go_loopg [10, 39] v.f2.length (fun kq v10 v39 wr => ∃ (i : Nat) (A5 : Option Addr) (c5 : Nat), v39 = .int .i64 i ∧ v10 = .slice A5 i c5 ∧ i + kq = v.f2.length ∧ Aside0 ((v.f2.take i).any bigR = false) ∧ Aside0 (kL.R 46 wr w.heap.size (fun k => W2.heap.size ≤ k) (.slice A5 i c5) ((v.f2.take i).map fun x => x.f2.map (·.f0))) ∧ Aside0 (Below W2.heap.size W2 wr))
        case atStart => exact ⟨0, none, 0, rfl, rfl, by omega, ⟨rfl⟩, ⟨Kd.R_nil _ _ _ _ _⟩, ⟨Below.refl _ _⟩⟩
        case round =>
          obtain ⟨i, A5, c5, rfl, rfl, hi, HNB, HR, HB⟩ := hrel
          obtain ⟨wo, rfl⟩ : ∃ wo : World, wo = wr := ⟨_, rfl⟩
          by_cases hlt : i < v.f2.length
          · have hlt' : (i : Int) < (v.f2.length : Int) := by omega
            obtain ⟨ad4, B1, d1, B2, d2, rfl, x0, x1, x2, l1, g1, l2, g2⟩ := at_T33 (Kd.C_below HC4.out HB.out) i (by omega) hlt'
            simp only [Int.toNat_natCast] at x0 x1 x2
            have HT := Aside0.mk (take_map (fun x : S33 => x.f2.map (·.f0)) v.f2 i hlt)
            have HTA := Aside0.mk (take_any bigR v.f2 i hlt)
            have HBM : Aside0 (bigR v.f2[i] = true → bigV v = true) := ⟨fun h => List.any_eq_true.2 ⟨_, List.getElem_mem hlt, h⟩⟩
            have HQJ := Aside0.mk (HS2.out _ (List.getElem_mem hlt))
            have HQW : Aside0 (WfS v.f2[i]) := ⟨by have h := HS3.out; cases h with | mk _ _ hk => exact hk _ (List.getElem_mem hlt)⟩
            have hrd : rd_T33 v.f2 (i : Int) = v.f2[i] := by simp [rd_T33, hlt]
            rw [hrd] at x0 x1 x2 l1 g1 l2 g2
            clear hrd
            generalize v.f2[i] = q at x0 x1 x2 l1 g1 l2 g2 HT HTA HBM HQJ HQW
            have hN := blk_new wo (.cells #[.int .u64 q.f0, .slice B1 q.f1.length d1, .slice B2 q.f2.length d2] 33)
            have HB1 : Aside0 (Below wo.heap.size wo (wo.alloc (.cells #[.int .u64 q.f0, .slice B1 q.f1.length d1, .slice B2 q.f2.length d2] 33))) := ⟨(Below.refl _ _).alloc (Nat.le_refl _) _⟩
            have HCQ := Aside0.mk (Kd.C_below g2 HB1.out)
            have hqm := g2.2.1
            have hq10 : q.f2.length ≤ 10 := by rw [HQJ.out]; exact hj10
            have HLT5 := Aside0.mk (Kd.R_lt HR.out)
            clear g1 g2 l1 l2
            go_upto_region 13 with fail
            generalize hW3 : wo.alloc (.cells #[.int .u64 q.f0, .slice B1 q.f1.length d1, .slice B2 q.f2.length d2] 33) = W3 at hN HB1 HCQ ⊢
            clear hW3
            have n2 : W3.cell? ⟨wo.heap.size, 2, none⟩ = some (.slice B2 q.f2.length d2) := (blk_cell hN 2).trans rfl
            have HR3 := Aside0.mk (Kd.R_below HR.out HB1.out)
            have HB3 := Aside0.mk (HB.out.trans (HB1.out.mono HB.out.size))
            clear hN x0 x1 x2 HR
            go_wp2_with fail
            clear n2
            go_loopg [13, 46] q.f2.length (fun kq v13 v46 wr => ∃ (k : Nat) (A6 : Option Addr) (c6 : Nat), v46 = .int .i64 k ∧ v13 = .slice A6 k c6 ∧ k + kq = q.f2.length ∧ Aside0 ((q.f2.take k).any (fun y => decide (1099511627776 ≤ y.f0)) = false) ∧ Aside0 ((Kd.int .i64).R 3 wr w.heap.size (fun k => W3.heap.size ≤ k) (.slice A6 k c6) ((q.f2.take k).map (·.f0))) ∧ Aside0 (Below W3.heap.size W3 wr))
            case atStart => exact ⟨0, none, 0, rfl, rfl, by omega, ⟨rfl⟩, ⟨Kd.R_nil _ _ _ _ _⟩, ⟨Below.refl _ _⟩⟩
            case round =>
              obtain ⟨k, A6, c6, rfl, rfl, hk, HNC, HR6, HBi⟩ := hrel
              by_cases hkl : k < q.f2.length
              · have hkl' : (k : Int) < (q.f2.length : Int) := by omega
                obtain ⟨ad6, E1, e1, E2, e2, rfl, y0, y1, y2, _, _, _, _⟩ := at_T33 (Kd.C_below HCQ.out HBi.out) k (by omega) hkl'
                simp only [Int.toNat_natCast] at y0 y1 y2
                have HTk := Aside0.mk (take_map (fun y : S33 => y.f0) q.f2 k hkl)
                have HTAk := Aside0.mk (take_any (fun y : S33 => decide (1099511627776 ≤ y.f0)) q.f2 k hkl)
                have HYM : Aside0 (1099511627776 ≤ (q.f2[k]).f0 → bigR q = true) := ⟨fun h => List.any_eq_true.2 ⟨_, List.getElem_mem hkl, decide_eq_true h⟩⟩
                have hy0 : 0 ≤ (q.f2[k]).f0 := by have h := HQW.out; cases h with | mk _ _ hk => have h2 := hk _ (List.getElem_mem hkl); cases h2 with | mk a _ _ => exact a
                have hrd : rd_T33 q.f2 (k : Int) = q.f2[k] := by simp [rd_T33, hkl]
                rw [hrd] at y0 y1 y2
                clear hrd
                generalize q.f2[k] = y at y0 y1 y2 HTk HTAk HYM hy0
                have hM := blk_new wr (.cells #[.int .u64 y.f0, .slice E1 y.f1.length e1, .slice E2 y.f2.length e2] 33)
                have HBy : Aside0 (Below W3.heap.size W3 (wr.alloc (.cells #[.int .u64 y.f0, .slice E1 y.f1.length e1, .slice E2 y.f2.length e2] 33))) := ⟨HBi.out.alloc HBi.out.size _⟩
                have HR7 := Aside0.mk (Kd.R_alloc HR6.out (.cells #[.int .u64 y.f0, .slice E1 y.f1.length e1, .slice E2 y.f2.length e2] 33))
                go_upto_region 16 with fail
                generalize hW4 : wr.alloc (.cells #[.int .u64 y.f0, .slice E1 y.f1.length e1, .slice E2 y.f2.length e2] 33) = W4 at hM HBy HR7 ⊢
                clear hW4
                have z0 : W4.cell? ⟨wr.heap.size, 0, none⟩ = some (.int .u64 y.f0) := (blk_cell hM 0).trans rfl
                clear hM y0 y1 y2 HR6 HBi
                by_cases hbig : 1099511627776 ≤ y.f0
                · have HRES : Aside0 (res = ([], 13)) := ⟨by rw [HTO.out, if_pos (HBM.out (HYM.out hbig))]⟩
                  go_wp2_with fail
                  go_ret2
                  rw [HRES.out]
                  exact OTakeQ.err 13 (HB2.out.trans ((HB3.out.trans (HBy.out.mono HB3.out.size)).mono HB2.out.size))
                · have hsm : y.f0 < 1099511627776 := by omega
                  have hw : IntKind.i64.wrap y.f0 = y.f0 := i64_big hy0 (by omega)
                  have hdk : decide (1099511627776 ≤ y.f0) = false := decide_eq_false hbig
                  rw [HNC.out, hdk, Bool.or_false] at HTAk
                  have HBW : Aside0 (Below w.heap.size w W4) := ⟨HB2.out.trans ((HB3.out.trans (HBy.out.mono HB3.out.size)).mono HB2.out.size)⟩
                  have HKL : Aside0 (((q.f2.take k).map (·.f0)).length ≤ 10) := ⟨by simp; omega⟩
                  have HLI : Aside0 (((q.f2.take (k + 1)).map (·.f0)).length = k + 1) := ⟨by simp; omega⟩
                  clear hbig hdk HYM HNC
                  generalize (q.f2.take k).map (·.f0) = ns at HR7 HTk HKL
                  go_wp2_with ((with_reducible refine gate_builtin (b := .append) (xs := #[.tmp 53, .tmp 57]) rfl ?_); at_builtin; refine Kd.R_append (Kd.int .i64) (w0 := W3) w.heap.size rfl (.tmp 53) (.tmp 57) 46 3 (.int .i64 0) 8 rfl Try.underlying46 info3 rfl (by decide) (by decide) (.slice A6 k c6) ns y.f0 [.int .i64 y.f0] (fun k => W3.heap.size ≤ k) (fun _ => False) rfl rfl ?aP (fun _ hk => hk.elim) ?aF ?aO ?aB ?aS ?aL ?_; (case aP => exact rfl); (case aF => exact fun k hk => Nat.le_trans HBy.out.size hk); (case aO => exact HR7.out); (case aB => exact HBy.out.mono (by have := HB2.out.size; have := HB3.out.size; omega)); (case aS => exact HBW.out.size); (case aL => have := HKL.out; omega); intro v5 w5 ho hb5 hg hat; rw [← HTk.out] at ho; obtain ⟨A7, c7, ev7⟩ := Kd.R_slice ho; rw [HLI.out] at ev7; subst ev7; have HO5 := Aside0.mk ho; have HB5 := Aside0.mk (HBy.out.grown hg HBy.out.size (fun j hj => HR7.out.1 j hj)); clear ho hb5 hg hat)
                  go_wp2_with fail
                  go_roundg (gk - 1)
                  case measure => omega
                  case rel => exact ⟨k + 1, A7, c7, by go_num, rfl, by omega, HTAk, HO5, HB5⟩
              · have HQE : Aside0 ((q.f2.take k).map (·.f0) = q.f2.map (·.f0)) := ⟨by rw [List.take_of_length_le (by omega)]⟩
                have HQB : Aside0 (bigR q = false) := ⟨by
                  have h := HNC.out
                  rw [List.take_of_length_le (by omega)] at h
                  exact h⟩
                rw [HQB.out, HNB.out, Bool.or_false] at HTA
                rw [HQE.out] at HR6
                have HR8 := Aside0.mk (Kd.R_below HR3.out HBi.out)
                have HBx := Aside0.mk (HB2.out.trans ((HB3.out.trans (HBi.out.mono HB3.out.size)).mono HB2.out.size))
                have HBy := Aside0.mk (HB3.out.trans (HBi.out.mono HB3.out.size))
                have HXL : Aside0 (((v.f2.take i).map fun x => x.f2.map (·.f0)).length ≤ 100000) := ⟨by simp; omega⟩
                have HLI : Aside0 (((v.f2.take (i + 1)).map fun x => x.f2.map (·.f0)).length = i + 1) := ⟨by simp; omega⟩
                have HZ := Aside0.mk (And.intro HB1.out.size (Nat.le_trans HB2.out.size HB3.out.size))
                clear HQE HQB HNB HR3 HNC
                generalize (v.f2.take i).map (fun x => x.f2.map (·.f0)) = xs at HR8 HT HXL
                go_wp2_with ((with_reducible refine gate_builtin (b := .append) (xs := #[.tmp 60, .tmp 62]) rfl ?_); at_builtin; refine Kd.R_append kL (w0 := w) w.heap.size rfl (.tmp 60) (.tmp 62) 141 46 (.slice none 0 0) 24 rfl Try.underlying141 info46 rfl (by decide) (by decide) (.slice A5 i c5) xs (q.f2.map (·.f0)) [.slice A6 k c6] (fun k => W2.heap.size ≤ k) (fun k => W3.heap.size ≤ k) rfl rfl ?aP ?aK ?aF ?aO ?aB ?aS ?aL ?_; (case aP => exact ⟨_, rfl, HR6.out⟩); (case aK => exact fun k hk => ⟨Nat.le_trans HB3.out.size hk, fun e => by have h1 := HLT5.out k e.symm; have h2 : W3.heap.size ≤ k := hk; have h3 := HZ.out.1; omega⟩); (case aF => exact fun k hk => Nat.le_trans HBy.out.size hk); (case aO => exact HR8.out); (case aB => exact HBx.out); (case aS => exact HBx.out.size); (case aL => have := HXL.out; omega); intro v5 w5 ho hb5 hg hat; rw [← HT.out] at ho; obtain ⟨A7, c7, ev7⟩ := Kd.R_slice ho; rw [HLI.out] at ev7; subst ev7; have HO5 := Aside0.mk ho; have HB5 := Aside0.mk (HBy.out.grown hg HBy.out.size (fun j hj => HR8.out.1 j hj)); clear ho hb5 hg hat)
                go_wp2_with fail
                go_roundg (v.f2.length - (i + 1))
                case measure => omega
                case rel => exact ⟨i + 1, A7, c7, by go_num, rfl, by omega, HTA, HO5, HB5⟩
          · have HTE : Aside0 ((v.f2.take i).map (fun x => x.f2.map (·.f0)) = numsOf v) := ⟨by rw [List.take_of_length_le (by omega)]; rfl⟩
            have HVB : Aside0 (bigV v = false) := ⟨by
              have h := HNB.out
              rw [List.take_of_length_le (by omega)] at h
              exact h⟩
            rw [HTE.out] at HR
            have HRES : Aside0 (res = (numsOf v, 0)) := ⟨by rw [HTO.out, HVB.out]; rfl⟩
            have HBx := Aside0.mk (HB2.out.trans (HB.out.mono HB2.out.size))
            go_wp2_with fail
            go_ret2
            rw [HRES.out]
            obtain ⟨h1, h2, h3⟩ := Kd.R_reads' HR.out
            exact ⟨HBx.out, A5, c5, by rw [h1]; rfl, by show (numsOf v).length ≤ c5; omega, h3⟩
      · have t0 : (er != 0) = true := by simpa using he
        rw [if_pos he] at HTO
        clear he
        go_wp2_with fail
        go_ret2
        rw [HTO.out]
        exact OTakeQ.err er HB2.out
    · have tt : (t != tag) = true := by simpa using ht
      have HTO : Aside0 (takeO l tag (t :: r) = ([], 13)) := ⟨by unfold takeO; simp [ht]⟩
      rw [HTO.out, hnn]
      clear ht hC HC hnn hrl x0 hr0 hx HTO
      generalize str l = sb
      go_enter Try.func85, Try.ntmps85
      go_wp2_with fail
      go_ret2
      exact OTakeQ.err 13 (Below.refl _ _)
end Go.Proofs.Ytcdlccnpbhjgkaa.Oo
namespace Go.Proofs.Ytcdlccnpbhjgkaa.Oo
open Go.RowKit Go.Maps Go.Proofs.YtcdlccnpbhjgkaaW.PrintWords Go.Proofs.YtcdlccnpbhjgkaaW.PrintLast Go.Proofs.YtcdlccnpbhjgkaaW.PrintMore
open Go.Proofs.Ytcdlccnpbhjgkaa.POrderBytes Go.Proofs.Ytcdlccnpbhjgkaa.Mp
set_option linter.unusedVariables false
set_option linter.unusedSimpArgs false
theorem takeO_len {l : List UInt8} {tag : Int} {j : Nat} (hp : parseF l = some (kRows j)) (hj : 0 < j) {bs : List Int} (hx : Byt bs) (hn : bs.length ≤ 100000) : (takeO l tag bs).1.length ≤ 100000 ∧ ∀ ns ∈ (takeO l tag bs).1, ns.length = j := by
  unfold takeO
  cases bs with
  | nil => simp
  | cons t r =>
    obtain ⟨h1, h2, h3⟩ := top_shape hp hj (bs := r) (fun x h => hx x (by simp [h]))
    simp only [List.length_cons] at hn
    simp only
    split
    · simp
    · split
      · simp
      · split
        · simp
        · refine ⟨by simp only [numsOf, List.length_map]; omega, fun ns hns => ?_⟩
          obtain ⟨x, hx, rfl⟩ := List.mem_map.1 hns
          rw [List.length_map]
          exact h2 x hx
theorem at_L {w : World} {A : Option Addr} {n : Nat} {xs : List (List Int)} (h : kL.C w A n xs) (i : Nat) (h1 : i < n) (h2 : i < xs.length) : ∃ ad A0 c0, A = some ad ∧ w.cell? (ad.add i) = some (.slice A0 (xs[i]).length c0) ∧ (xs[i]).length ≤ c0 ∧ (Kd.int .i64).C w A0 (xs[i]).length xs[i] := by
  obtain ⟨ad, c, e, _, hK, hc0⟩ := Kd.C_get h ([] : List Int) (i : Int) (by omega) (by omega)
  have hg : xs.getD ((i : Int)).toNat [] = xs[i] := by simp [h2]
  rw [hg] at hK
  obtain ⟨A0, c0, rfl, l0, g0⟩ := hK
  have hz : kL.sz = 1 := rfl
  have hq := hc0 0 _ rfl
  rw [hz] at hq
  refine ⟨ad, A0, c0, e, ?_, l0, g0⟩
  simpa using hq
theorem add_n (ad : Addr) (k : Nat) (hk : 0 < k) : ad.add k = ⟨ad.block, ad.off + k, none⟩ := by
  have h0 : ad.add 0 = ad := by simp [Addr.add]
  have := add_field ad 0 k hk
  rw [h0, Nat.zero_add] at this
  exact this
def mk82 (ns : List Int) : S82 := ⟨ns.getD 0 0, ns.getD 1 0, ns.getD 2 0, ns.getD 3 0⟩
def bad82 (ns : List Int) : Bool := ns.getD 0 0 == 0
def parseP (bs : List Int) : List S82 × Int :=
  if (takeO sh4 1 bs).2 ≠ 0 then ([], (takeO sh4 1 bs).2) else if (takeO sh4 1 bs).1.any bad82 then ([], 13) else ((takeO sh4 1 bs).1.map mk82, 0)
def ParseQ82 (r : List S82 × Int) (w : World) (e : Ending) (w' : World) : Prop :=
  Below w.heap.size w w' ∧ ∃ A' c', e = .returned (.tuple #[.slice A' r.1.length c', .int .i64 r.2]) ∧ r.1.length ≤ c' ∧ k82.C w' A' r.1.length r.1
theorem ParseQ82.err (e : Int) {w w' : World} (h : Below w.heap.size w w') : ParseQ82 ([], e) w (.returned (.tuple #[.slice none 0 0, .int .i64 e])) w' := ⟨h, none, 0, rfl, Nat.le_refl _, Kd.C_nil _ _⟩
theorem info82 : (Try.prog.info? 82).map (fun i => (i.zero, i.size, i.bytes)) = some (some (.agg #[(.int .i64 0), (.int .i64 0), (.int .i64 0), (.int .i64 0)]), 4, 32) := by kernel_rfl
set_option maxHeartbeats 4000000 in
set_option maxRecDepth 100000 in
theorem Parse_calls (bs : List Int) (A : Option Addr) (c : Nat) (w : World) (hC : (Kd.int .u8).C w A bs.length bs) (hc : bs.length ≤ c) (hx : Byt bs) (hn : bs.length ≤ 100000) :
    Calls Try.prog 52 #[.slice A bs.length c] w (ParseQ82 (parseP bs) w) := by
  have HT := Aside0.mk (otake_calls 1 sh4 4 p_4 (by omega) (by omega) bs A c w hC hc hx hn)
  obtain ⟨hl1, hl2⟩ := takeO_len (tag := 1) p_4 (by omega) hx hn
  obtain ⟨res, hres⟩ : ∃ res, parseP bs = res := ⟨_, rfl⟩
  rw [hres]
  unfold parseP at hres
  obtain ⟨⟨rows, er⟩, hr⟩ : ∃ r, takeO sh4 1 bs = r := ⟨_, rfl⟩
  rw [hr] at HT hl1 hl2 hres
  simp only at hl1 hl2 hres
  have HRES := Aside0.mk hres
  have HL2 := Aside0.mk hl2
  clear hC hc hx hn hres hr hl2
  generalize bs.length = nb at HT ⊢
  go_enter Try.func52, Try.ntmps52
  go_wp2_with fail
  refine HT.out.mono ?_
  rintro E w1 ⟨hB, A1, c1, rfl, hc1, hC1⟩
  simp only at hc1 hC1 ⊢
  have HB1 := Aside0.mk hB
  have HC1 := Aside0.mk hC1
  have hmax := hC1.2.1
  clear hB hC1 HT
  by_cases he : er = 0
  · subst he
    rw [if_neg (by simp)] at HRES
    go_wp2_with fail
    go_loopg [6, 19] rows.length (fun kq v6 v19 wr => ∃ (i : Nat) (A5 : Option Addr) (c5 : Nat), v19 = .int .i64 i ∧ v6 = .slice A5 i c5 ∧ i + kq = rows.length ∧ Aside0 ((rows.take i).any bad82 = false) ∧ Aside0 (k82.R 82 wr w.heap.size (fun k => w1.heap.size ≤ k) (.slice A5 i c5) ((rows.take i).map mk82)) ∧ Aside0 (Below w1.heap.size w1 wr))
    case atStart => exact ⟨0, none, 0, rfl, rfl, by omega, ⟨rfl⟩, ⟨Kd.R_nil _ _ _ _ _⟩, ⟨Below.refl _ _⟩⟩
    case round =>
      obtain ⟨i, A5, c5, rfl, rfl, hi, HNB, HR, HB⟩ := hrel
      by_cases hlt : i < rows.length
      · have hlt' : (i : Int) < (rows.length : Int) := by omega
        obtain ⟨ad, A0, c0, rfl, x0, hc0, g0⟩ := at_L HC1.out i hlt hlt
        have HT := Aside0.mk (take_map mk82 rows i hlt)
        have HTA := Aside0.mk (take_any bad82 rows i hlt)
        have HBM : Aside0 (bad82 rows[i] = true → rows.any bad82 = true) := ⟨fun h => List.any_eq_true.2 ⟨_, List.getElem_mem hlt, h⟩⟩
        have hn4 := HL2.out _ (List.getElem_mem hlt)
        generalize rows[i] = ns at x0 hc0 g0 HT HTA HBM hn4
        rw [hn4] at x0 g0
        obtain ⟨a0, a1, a2, a3, rfl⟩ : ∃ a0 a1 a2 a3, ns = [a0, a1, a2, a3] := by
          match ns, hn4 with
          | [a0, a1, a2, a3], _ => exact ⟨a0, a1, a2, a3, rfl⟩
        obtain ⟨ad0, rfl, y0⟩ := Kd.at_int g0 0 (by omega) (by omega)
        obtain ⟨_, e1, y1⟩ := Kd.at_int g0 1 (by omega) (by omega)
        cases e1
        obtain ⟨_, e2, y2⟩ := Kd.at_int g0 2 (by omega) (by omega)
        cases e2
        obtain ⟨_, e3, y3⟩ := Kd.at_int g0 3 (by omega) (by omega)
        cases e3
        have x0w := cellB HB.out x0
        have v0 : w1.cell? ad0 = some (.int .i64 a0) := y0
        have v1 : w1.cell? ⟨ad0.block, ad0.off + 1, none⟩ = some (.int .i64 a1) := by rw [← add_n ad0 1 (by omega)]; exact y1
        have v2 : w1.cell? ⟨ad0.block, ad0.off + 2, none⟩ = some (.int .i64 a2) := by rw [← add_n ad0 2 (by omega)]; exact y2
        have v3 : w1.cell? ⟨ad0.block, ad0.off + 3, none⟩ = some (.int .i64 a3) := by rw [← add_n ad0 3 (by omega)]; exact y3
        have z0 := cellB HB.out v0
        have HK : Aside0 (∀ W', Below w1.heap.size w1 W' → W'.cell? ad0 = some (.int .i64 a0) ∧ W'.cell? ⟨ad0.block, ad0.off + 1, none⟩ = some (.int .i64 a1) ∧ W'.cell? ⟨ad0.block, ad0.off + 2, none⟩ = some (.int .i64 a2) ∧ W'.cell? ⟨ad0.block, ad0.off + 3, none⟩ = some (.int .i64 a3)) := ⟨fun W' hB => ⟨cellB hB v0, cellB hB v1, cellB hB v2, cellB hB v3⟩⟩
        clear y0 y1 y2 y3 hn4 g0 hc0 v0 v1 v2 v3 x0
        by_cases h0 : a0 = 0
        · have t0 : (a0 == 0) = true := by simpa using h0
          have HRE : Aside0 (res = ([], 13)) := ⟨by rw [← HRES.out, if_pos (HBM.out (by simpa [bad82] using h0))]⟩
          clear h0
          go_wp2_with fail
          go_ret2
          rw [HRE.out]
          exact ParseQ82.err 13 (HB1.out.trans (HB.out.mono HB1.out.size))
        · have t0 : (a0 == 0) = false := by simpa using h0
          have hb0 : bad82 [a0, a1, a2, a3] = false := by simpa [bad82] using h0
          rw [hb0, HNB.out, Bool.or_false] at HTA
          have HBD : Aside0 (Below w1.heap.size w1 wr.drew) := ⟨HB.out.drew⟩
          have HRD := Aside0.mk (Kd.R_drew HR.out)
          have HXL : Aside0 (((rows.take i).map mk82).length ≤ 100000) := ⟨by simp; omega⟩
          have HLI : Aside0 (((rows.take (i + 1)).map mk82).length = i + 1) := ⟨by simp; omega⟩
          have HMK : Aside0 (mk82 [a0, a1, a2, a3] = ⟨a0, a1, a2, a3⟩) := ⟨rfl⟩
          rw [HMK.out] at HT
          clear h0 hb0 HNB HR HB HBM
          go_upto_region 10 with fail
          have HBW := Aside0.mk (HB1.out.trans (HBD.out.mono HB1.out.size))
          have HBA : Aside0 (∀ o, Below w1.heap.size w1 (wr.alloc o).drew) := ⟨fun o => (HBD.out.trans (((Below.refl _ _).alloc (Nat.le_refl _) o).mono HBD.out.size))⟩
          clear x0w z0
          generalize (rows.take i).map mk82 = xs at HRD HT HXL
          go_region_held3 (fun w' => w'.cell? ad0 = some (.int .i64 a0) ∧ w'.cell? ⟨ad0.block, ad0.off + 1, none⟩ = some (.int .i64 a1) ∧ w'.cell? ⟨ad0.block, ad0.off + 2, none⟩ = some (.int .i64 a2) ∧ w'.cell? ⟨ad0.block, ad0.off + 3, none⟩ = some (.int .i64 a3)) (first | exact HK.out _ HB5.out | exact HK.out _ HBD.out | exact HK.out _ (HBA.out _))
            (first | (refine Kd.R_append_step k82 (w0 := w) (W := wr.drew) w.heap.size (by rfl) (.tmp 27) (.tmp 41) 79 82 (.agg #[(.int .i64 0), (.int .i64 0), (.int .i64 0), (.int .i64 0)]) 32 rfl Try.underlying79 info82 rfl (by decide) (by decide) (.slice A5 i c5) xs (⟨a0, a1, a2, a3⟩ : S82) [.int .i64 a0, .int .i64 a1, .int .i64 a2, .int .i64 a3] (fun k => w1.heap.size ≤ k) (fun _ => False) rfl rfl ?aP (fun _ hk => hk.elim) ?aF ?aO ?aB ?aS ?aL ?_; (case aP => exact k82_mkM _ _ _ _); (case aF => exact fun k hk => Nat.le_trans HBD.out.size hk); (case aO => exact HRD.out); (case aB => exact HBW.out); (case aS => exact HBW.out.size); (case aL => have := HXL.out; omega); intro v5 w5 ho hb5 hg hat; rw [← HT.out] at ho; obtain ⟨A7, c7, ev7⟩ := Kd.R_slice ho; rw [HLI.out] at ev7; subst ev7; have HO5 := Aside0.mk ho; have HB5 := Aside0.mk (HBD.out.grown hg HBD.out.size (fun j hj => HRD.out.1 j hj)); clear ho hb5 hg hat))
          go_wp2_with fail
          go_roundg (gk - 1)
          case measure => omega
          case rel => exact ⟨i + 1, A7, c7, by go_num, rfl, by omega, HTA, HO5, HB5⟩
      · have HTE : Aside0 ((rows.take i).map mk82 = rows.map mk82) := ⟨by rw [List.take_of_length_le (by omega)]⟩
        have HVB : Aside0 (rows.any bad82 = false) := ⟨by
          have h := HNB.out
          rwa [List.take_of_length_le (by omega)] at h⟩
        rw [HTE.out] at HR
        have HRE : Aside0 (res = (rows.map mk82, 0)) := ⟨by rw [← HRES.out, HVB.out]; rfl⟩
        have HBx := Aside0.mk (HB1.out.trans (HB.out.mono HB1.out.size))
        go_wp2_with fail
        go_ret2
        rw [HRE.out]
        obtain ⟨h1, h2, h3⟩ := Kd.R_reads' HR.out
        exact ⟨HBx.out, A5, c5, by rw [h1]; rfl, by show (rows.map mk82).length ≤ c5; omega, h3⟩
  · have t0 : (er != 0) = true := by simpa using he
    rw [if_pos he] at HRES
    clear he
    go_wp2_with fail
    go_ret2
    rw [← HRES.out]
    exact ParseQ82.err er HB1.out
end Go.Proofs.Ytcdlccnpbhjgkaa.Oo
namespace Go.Proofs.Ytcdlccnpbhjgkaa.Oo
open Go.RowKit Go.Maps Go.Proofs.YtcdlccnpbhjgkaaW.PrintWords Go.Proofs.YtcdlccnpbhjgkaaW.PrintLast Go.Proofs.YtcdlccnpbhjgkaaW.PrintMore
open Go.Proofs.Ytcdlccnpbhjgkaa.POrderBytes Go.Proofs.Ytcdlccnpbhjgkaa.Mp
set_option linter.unusedVariables false
set_option linter.unusedSimpArgs false
def mk99 (ns : List Int) : S99 := ⟨ns.getD 0 0, ns.getD 1 0, ns.getD 2 0, ns.getD 3 0, ns.getD 4 0, ns.getD 5 0 == 1⟩
def bad99 (ns : List Int) : Bool := decide (1 < ns.getD 5 0)
def parseR (bs : List Int) : List S99 × Int :=
  if (takeO sh6 2 bs).2 ≠ 0 then ([], (takeO sh6 2 bs).2) else if (takeO sh6 2 bs).1.any bad99 then ([], 13) else ((takeO sh6 2 bs).1.map mk99, 0)
def ParseQ99 (r : List S99 × Int) (w : World) (e : Ending) (w' : World) : Prop :=
  Below w.heap.size w w' ∧ ∃ A' c', e = .returned (.tuple #[.slice A' r.1.length c', .int .i64 r.2]) ∧ r.1.length ≤ c' ∧ k99.C w' A' r.1.length r.1
theorem ParseQ99.err (e : Int) {w w' : World} (h : Below w.heap.size w w') : ParseQ99 ([], e) w (.returned (.tuple #[.slice none 0 0, .int .i64 e])) w' := ⟨h, none, 0, rfl, Nat.le_refl _, Kd.C_nil _ _⟩
theorem info99 : (Try.prog.info? 99).map (fun i => (i.zero, i.size, i.bytes)) = some (some (.agg #[(.int .i64 0), (.int .i64 0), (.int .i64 0), (.int .i64 0), (.int .i64 0), (.bool false)]), 6, 48) := by kernel_rfl
set_option maxHeartbeats 4000000 in
set_option maxRecDepth 100000 in
theorem ParseReports_calls (bs : List Int) (A : Option Addr) (c : Nat) (w : World) (hC : (Kd.int .u8).C w A bs.length bs) (hc : bs.length ≤ c) (hx : Byt bs) (hn : bs.length ≤ 100000) :
    Calls Try.prog 53 #[.slice A bs.length c] w (ParseQ99 (parseR bs) w) := by
  have HT := Aside0.mk (otake_calls 2 sh6 6 p_6 (by omega) (by omega) bs A c w hC hc hx hn)
  obtain ⟨hl1, hl2⟩ := takeO_len (tag := 2) p_6 (by omega) hx hn
  obtain ⟨res, hres⟩ : ∃ res, parseR bs = res := ⟨_, rfl⟩
  rw [hres]
  unfold parseR at hres
  obtain ⟨⟨rows, er⟩, hr⟩ : ∃ r, takeO sh6 2 bs = r := ⟨_, rfl⟩
  rw [hr] at HT hl1 hl2 hres
  simp only at hl1 hl2 hres
  have HRES := Aside0.mk hres
  have HL2 := Aside0.mk hl2
  clear hC hc hx hn hres hr hl2
  generalize bs.length = nb at HT ⊢
  go_enter Try.func53, Try.ntmps53
  go_wp2_with fail
  refine HT.out.mono ?_
  rintro E w1 ⟨hB, A1, c1, rfl, hc1, hC1⟩
  simp only at hc1 hC1 ⊢
  have HB1 := Aside0.mk hB
  have HC1 := Aside0.mk hC1
  have hmax := hC1.2.1
  clear hB hC1 HT
  by_cases he : er = 0
  · subst he
    rw [if_neg (by simp)] at HRES
    go_wp2_with fail
    go_loopg [6, 19] rows.length (fun kq v6 v19 wr => ∃ (i : Nat) (A5 : Option Addr) (c5 : Nat), v19 = .int .i64 i ∧ v6 = .slice A5 i c5 ∧ i + kq = rows.length ∧ Aside0 ((rows.take i).any bad99 = false) ∧ Aside0 (k99.R 99 wr w.heap.size (fun k => w1.heap.size ≤ k) (.slice A5 i c5) ((rows.take i).map mk99)) ∧ Aside0 (Below w1.heap.size w1 wr))
    case atStart => exact ⟨0, none, 0, rfl, rfl, by omega, ⟨rfl⟩, ⟨Kd.R_nil _ _ _ _ _⟩, ⟨Below.refl _ _⟩⟩
    case round =>
      obtain ⟨i, A5, c5, rfl, rfl, hi, HNB, HR, HB⟩ := hrel
      by_cases hlt : i < rows.length
      · have hlt' : (i : Int) < (rows.length : Int) := by omega
        obtain ⟨ad, A0, c0, rfl, x0, hc0, g0⟩ := at_L HC1.out i hlt hlt
        have HT := Aside0.mk (take_map mk99 rows i hlt)
        have HTA := Aside0.mk (take_any bad99 rows i hlt)
        have HBM : Aside0 (bad99 rows[i] = true → rows.any bad99 = true) := ⟨fun h => List.any_eq_true.2 ⟨_, List.getElem_mem hlt, h⟩⟩
        have hn6 := HL2.out _ (List.getElem_mem hlt)
        generalize rows[i] = ns at x0 hc0 g0 HT HTA HBM hn6
        rw [hn6] at x0 g0
        obtain ⟨a0, a1, a2, a3, a4, a5, rfl⟩ : ∃ a0 a1 a2 a3 a4 a5, ns = [a0, a1, a2, a3, a4, a5] := by
          match ns, hn6 with
          | [a0, a1, a2, a3, a4, a5], _ => exact ⟨a0, a1, a2, a3, a4, a5, rfl⟩
        obtain ⟨ad0, rfl, y0⟩ := Kd.at_int g0 0 (by omega) (by omega)
        obtain ⟨_, e1, y1⟩ := Kd.at_int g0 1 (by omega) (by omega)
        cases e1
        obtain ⟨_, e2, y2⟩ := Kd.at_int g0 2 (by omega) (by omega)
        cases e2
        obtain ⟨_, e3, y3⟩ := Kd.at_int g0 3 (by omega) (by omega)
        cases e3
        obtain ⟨_, e4, y4⟩ := Kd.at_int g0 4 (by omega) (by omega)
        cases e4
        obtain ⟨_, e5, y5⟩ := Kd.at_int g0 5 (by omega) (by omega)
        cases e5
        have x0w := cellB HB.out x0
        have v0 : w1.cell? ad0 = some (.int .i64 a0) := y0
        have v1 : w1.cell? ⟨ad0.block, ad0.off + 1, none⟩ = some (.int .i64 a1) := by rw [← add_n ad0 1 (by omega)]; exact y1
        have v2 : w1.cell? ⟨ad0.block, ad0.off + 2, none⟩ = some (.int .i64 a2) := by rw [← add_n ad0 2 (by omega)]; exact y2
        have v3 : w1.cell? ⟨ad0.block, ad0.off + 3, none⟩ = some (.int .i64 a3) := by rw [← add_n ad0 3 (by omega)]; exact y3
        have v4 : w1.cell? ⟨ad0.block, ad0.off + 4, none⟩ = some (.int .i64 a4) := by rw [← add_n ad0 4 (by omega)]; exact y4
        have v5 : w1.cell? ⟨ad0.block, ad0.off + 5, none⟩ = some (.int .i64 a5) := by rw [← add_n ad0 5 (by omega)]; exact y5
        have z5 := cellB HB.out v5
        have HK : Aside0 (∀ W', Below w1.heap.size w1 W' → W'.cell? ad0 = some (.int .i64 a0) ∧ W'.cell? ⟨ad0.block, ad0.off + 1, none⟩ = some (.int .i64 a1) ∧ W'.cell? ⟨ad0.block, ad0.off + 2, none⟩ = some (.int .i64 a2) ∧ W'.cell? ⟨ad0.block, ad0.off + 3, none⟩ = some (.int .i64 a3) ∧ W'.cell? ⟨ad0.block, ad0.off + 4, none⟩ = some (.int .i64 a4) ∧ W'.cell? ⟨ad0.block, ad0.off + 5, none⟩ = some (.int .i64 a5)) := ⟨fun W' hB => ⟨cellB hB v0, cellB hB v1, cellB hB v2, cellB hB v3, cellB hB v4, cellB hB v5⟩⟩
        clear y0 y1 y2 y3 y4 y5 hn6 g0 hc0 v0 v1 v2 v3 v4 v5 x0
        by_cases h0 : 1 < a5
        · have t0 : decide (1 < a5) = true := decide_eq_true h0
          have HRE : Aside0 (res = ([], 13)) := ⟨by rw [← HRES.out, if_pos (HBM.out (by simpa [bad99] using h0))]⟩
          clear h0
          go_wp2_with fail
          go_ret2
          rw [HRE.out]
          exact ParseQ99.err 13 (HB1.out.trans (HB.out.mono HB1.out.size))
        · have t0 : decide (1 < a5) = false := decide_eq_false h0
          have hb0 : bad99 [a0, a1, a2, a3, a4, a5] = false := by simpa [bad99] using h0
          rw [hb0, HNB.out, Bool.or_false] at HTA
          have HBD : Aside0 (Below w1.heap.size w1 wr.drew) := ⟨HB.out.drew⟩
          have HRD := Aside0.mk (Kd.R_drew HR.out)
          have HXL : Aside0 (((rows.take i).map mk99).length ≤ 100000) := ⟨by simp; omega⟩
          have HLI : Aside0 (((rows.take (i + 1)).map mk99).length = i + 1) := ⟨by simp; omega⟩
          have HMK : Aside0 (mk99 [a0, a1, a2, a3, a4, a5] = ⟨a0, a1, a2, a3, a4, a5 == 1⟩) := ⟨rfl⟩
          rw [HMK.out] at HT
          clear h0 hb0 HNB HR HB HBM
          go_upto_region 10 with fail
          have HBW := Aside0.mk (HB1.out.trans (HBD.out.mono HB1.out.size))
          have HBA : Aside0 (∀ o, Below w1.heap.size w1 (wr.alloc o).drew) := ⟨fun o => (HBD.out.trans (((Below.refl _ _).alloc (Nat.le_refl _) o).mono HBD.out.size))⟩
          clear x0w z5
          generalize (rows.take i).map mk99 = xs at HRD HT HXL
          go_region_held3 (fun w' => w'.cell? ad0 = some (.int .i64 a0) ∧ w'.cell? ⟨ad0.block, ad0.off + 1, none⟩ = some (.int .i64 a1) ∧ w'.cell? ⟨ad0.block, ad0.off + 2, none⟩ = some (.int .i64 a2) ∧ w'.cell? ⟨ad0.block, ad0.off + 3, none⟩ = some (.int .i64 a3) ∧ w'.cell? ⟨ad0.block, ad0.off + 4, none⟩ = some (.int .i64 a4) ∧ w'.cell? ⟨ad0.block, ad0.off + 5, none⟩ = some (.int .i64 a5)) (first | exact HK.out _ HB5.out | exact HK.out _ HBD.out | exact HK.out _ (HBA.out _))
            (first | (refine Kd.R_append_step k99 (w0 := w) (W := wr.drew) w.heap.size (by rfl) (.tmp 27) (.tmp 48) 86 99 (.agg #[(.int .i64 0), (.int .i64 0), (.int .i64 0), (.int .i64 0), (.int .i64 0), (.bool false)]) 48 rfl Try.underlying86 info99 rfl (by decide) (by decide) (.slice A5 i c5) xs (⟨a0, a1, a2, a3, a4, a5 == 1⟩ : S99) [.int .i64 a0, .int .i64 a1, .int .i64 a2, .int .i64 a3, .int .i64 a4, .bool (a5 == 1)] (fun k => w1.heap.size ≤ k) (fun _ => False) rfl rfl ?aP (fun _ hk => hk.elim) ?aF ?aO ?aB ?aS ?aL ?_; (case aP => exact k99_mkM _ _ _ _); (case aF => exact fun k hk => Nat.le_trans HBD.out.size hk); (case aO => exact HRD.out); (case aB => exact HBW.out); (case aS => exact HBW.out.size); (case aL => have := HXL.out; omega); intro v5 w5 ho hb5 hg hat; rw [← HT.out] at ho; obtain ⟨A7, c7, ev7⟩ := Kd.R_slice ho; rw [HLI.out] at ev7; subst ev7; have HO5 := Aside0.mk ho; have HB5 := Aside0.mk (HBD.out.grown hg HBD.out.size (fun j hj => HRD.out.1 j hj)); clear ho hb5 hg hat))
          go_wp2_with fail
          go_roundg (gk - 1)
          case measure => omega
          case rel => exact ⟨i + 1, A7, c7, by go_num, rfl, by omega, HTA, HO5, HB5⟩
      · have HTE : Aside0 ((rows.take i).map mk99 = rows.map mk99) := ⟨by rw [List.take_of_length_le (by omega)]⟩
        have HVB : Aside0 (rows.any bad99 = false) := ⟨by
          have h := HNB.out
          rwa [List.take_of_length_le (by omega)] at h⟩
        rw [HTE.out] at HR
        have HRE : Aside0 (res = (rows.map mk99, 0)) := ⟨by rw [← HRES.out, HVB.out]; rfl⟩
        have HBx := Aside0.mk (HB1.out.trans (HB.out.mono HB1.out.size))
        go_wp2_with fail
        go_ret2
        rw [HRE.out]
        obtain ⟨h1, h2, h3⟩ := Kd.R_reads' HR.out
        exact ⟨HBx.out, A5, c5, by rw [h1]; rfl, by show (rows.map mk99).length ≤ c5; omega, h3⟩
  · have t0 : (er != 0) = true := by simpa using he
    rw [if_pos he] at HRES
    clear he
    go_wp2_with fail
    go_ret2
    rw [← HRES.out]
    exact ParseQ99.err er HB1.out
end Go.Proofs.Ytcdlccnpbhjgkaa.Oo
