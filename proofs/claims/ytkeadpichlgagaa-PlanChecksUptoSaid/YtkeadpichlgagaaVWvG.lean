/- Kept of the text WvG: what is reached (wip/tools/prune.py). -/
import Derived.Test.YtkeadpichlgagaaVWvF
namespace Go.Proofs.Ytkeadpichlgagaa.Wv
open Go.RowKit Go.Maps Go.Proofs.YtkeadpichlgagaaW.PrintWords Go.Proofs.YtkeadpichlgagaaW.PrintLast Go.Proofs.YtkeadpichlgagaaW.PrintMore
open Go.Proofs.Ytkeadpichlgagaa.PWaveReady Go.Proofs.Ytkeadpichlgagaa.Mp
set_option linter.unusedVariables false
set_option linter.unusedSimpArgs false
set_option linter.unnecessarySimpa false
theorem rd_row (G : Gr) (i : Nat) : rd_L1 G (i : Int) = row G (i : Int) := by unfold rd_L1 row; rfl
def lenF (G : Gr) (i : Nat) (y : Nat) : Int := if y < i then ((row G (y : Int)).length : Int) else 0
def qF (G : Gr) (i : Nat) : List Int := (rng i).filter (fun y => decide ((row G y).length = 0))
theorem qF_succ (G : Gr) (i : Nat) : qF G (i + 1) = qF G i ++ (if (row G (i : Int)).length = 0 then [(i : Int)] else []) := by
  unfold qF
  rw [rng_succ, List.filter_append]
  congr 1
  by_cases h : (row G (i : Int)).length = 0
  · rw [if_pos h, List.filter_cons, if_pos (by simpa using h)]; rfl
  · rw [if_neg h, List.filter_cons, if_neg (by simpa using h)]; rfl
theorem qF_length (G : Gr) (i : Nat) : (qF G i).length ≤ i := Nat.le_trans (List.length_filter_le _ _) (by rw [rng_length]; exact Nat.le_refl _)
theorem cnt_nil (G : Gr) (y : Int) : cnt G [] y = (row G y).length := by
  unfold cnt
  congr 1
  exact List.filter_eq_self.2 (fun x _ => by simp)
theorem qF_all (G : Gr) : qF G G.length = rdy G [] := by
  unfold qF rdy isR
  refine List.filter_congr (fun y _ => ?_)
  rw [Bool.eq_iff_iff]
  simp [List.eq_nil_iff_forall_not_mem]
theorem lenF_all (G : Gr) : lsF G.length (lenF G G.length) = lsF G.length (fun y => (cnt G [] (y : Int) : Int)) :=
  lsF_congr (fun y hy => by unfold lenF; rw [if_pos hy, cnt_nil])
theorem lenF_set (G : Gr) {i : Nat} : (lsF G.length (lenF G i)).set i ((row G (i : Int)).length : Int) = lsF G.length (lenF G (i + 1)) := by
  rw [lsF_set]
  refine lsF_congr (fun y _ => ?_)
  unfold lenF
  by_cases e : y = i
  · subst e; simp
  · rw [if_neg e]
    by_cases h : y < i
    · rw [if_pos h, if_pos (by omega)]
    · rw [if_neg h, if_neg (by omega)]
def dnF (G : Gr) : List (List Int) := (List.range G.length).map (fun a : Nat => downs G (a : Int))
theorem rdy_length (G : Gr) (out : List Int) : (rdy G out).length ≤ G.length := Nat.le_trans (List.length_filter_le _ _) (by rw [rng_length]; exact Nat.le_refl _)
theorem dnF_length (G : Gr) : (dnF G).length = G.length := by simp [dnF]
theorem dnF_rd (G : Gr) {a : Nat} (h : a < G.length) : rd_L1 (dnF G) (a : Int) = downs G (a : Int) := by
  unfold rd_L1 dnF
  simp [List.getD_eq_getElem?_getD, h]
def cutF (G : Gr) (out : List Int) (a : Int) (dl : List Int) (y : Nat) : Int := if (y : Int) ∈ dl then (cnt G (out ++ [a]) (y : Int) : Int) else (cnt G out (y : Int) : Int)
theorem cutF_nil (G : Gr) (out : List Int) (a : Int) : cutF G out a [] = fun y : Nat => (cnt G out (y : Int) : Int) := by
  funext y; simp [cutF]
theorem cutF_all {G : Gr} (hk : Ok G) {out : List Int} {a : Int} (ha : a ∉ out) : lsF G.length (cutF G out a (downs G a)) = lsF G.length (fun y => (cnt G (out ++ [a]) (y : Int) : Int)) :=
  lsF_congr (fun y hy => by
    unfold cutF
    by_cases h : (y : Int) ∈ downs G a
    · rw [if_pos h]
    · rw [if_neg h]
      have hr : a ∉ row G (y : Int) := fun e => h (mem_downs.2 ⟨by omega, by omega, e⟩)
      have := cnt_step hk ha (y := (y : Int)) (by omega) (by omega)
      rw [if_neg hr] at this
      omega)
theorem cutF_set {G : Gr} {out : List Int} {a : Int} {dl : List Int} {y : Nat} (x : Int) (hx : x = (cnt G (out ++ [a]) (y : Int) : Int)) : (lsF G.length (cutF G out a dl)).set y x = lsF G.length (cutF G out a (dl ++ [(y : Int)])) := by
  rw [lsF_set]
  refine lsF_congr (fun z _ => ?_)
  unfold cutF
  by_cases e : z = y
  · subst e; rw [if_pos rfl, if_pos (by simp)]; exact hx
  · rw [if_neg e]
    have : ((z : Int) ∈ dl ++ [(y : Int)]) ↔ ((z : Int) ∈ dl) := by
      rw [List.mem_append, List.mem_singleton]
      exact ⟨fun h => h.elim id (fun h => absurd (by omega) e), .inl⟩
    simp only [this]
theorem Turn.stored {B ab : Nat} {v u : Value} {xs ys : Q} {W w5 : World} (h : QIs W B ab v xs) (hg : W.grownBy w5 v.ownBlock) (ho : QR w5 B u ys) (hat : u.ownBlock = v.ownBlock ∨ ∃ b, u.ownBlock = some b ∧ W.heap.size ≤ b) :
    QIs (w5.setCell ⟨ab, 0, none⟩ u) B ab u ys ∧ Turn ab v u W (w5.setCell ⟨ab, 0, none⟩ u) :=
  ⟨QIs.stored (blk_grown h.blk hg h.ne) ho, ((FrS.of_grown hg).mono (fun k _ h => Or.inr h) (S' := fun k => k = ab ∨ v.ownBlock = some k)).set (p := ⟨ab, 0, none⟩) (fun _ => .inl rfl) u, hat⟩
set_option maxHeartbeats 4000000 in
set_option maxRecDepth 100000 in
theorem order_calls (A : Option Addr) (c : Nat) (G : Gr) (w : World) (hr : Kd.C (Kd.slice 3 (Kd.int .i64)) w A G.length G) (hc : G.length ≤ c) (hN : G.length ≤ 10000) (hrows : ∀ y : Nat, y < G.length → (row G (y : Int)).length ≤ 1000000) (hk : Ok G)
    (hy : ∃ k, wave_young.f k G = some (dnF G)) :
    Calls Try.prog 69 #[.slice A G.length c] w fun e w' => ∃ v, e = .returned v ∧ (Kd.int .i64).R 3 w' w.heap.size (fun k => w.heap.size ≤ k) v (ordA G) ∧ Below w.heap.size w w' := by
  have HR := Aside0.mk hr
  have HC := Aside0.mk hc
  have HRO := Aside0.mk hrows
  have HOK := Aside0.mk hk
  have HY := Aside0.mk hy
  clear hr hc hrows hk hy
  obtain ⟨N, hNN⟩ : ∃ N, G.length = N := ⟨_, rfl⟩
  have HNN := Aside0.mk hNN
  rw [hNN] at hN ⊢
  clear hNN
  go_enter Try.func69, Try.ntmps69
  go_wp2_with ((with_reducible refine gate_dst (N := 14) rfl ?_); refine Kd.R_make (Kd.int .i64) w.heap.size 3 rfl (N := 14) rfl 25 _ _ rfl (N : Int) rfl rfl Try.underlying25 (.int .i64 0) 8 info3 rfl (by decide) (by decide) 0 (ok := fun _ => True) (okp := fun _ => True) rfl (fun _ hk => hk) trivial (by omega) (by omega) (Below.refl _ _) (Nat.le_refl _) ?_; intro v1 w1 ho hb hg hnew; have HO1 := Aside0.mk ho; have HB1 := Aside0.mk hb; clear ho hb hg hnew)
  have HO2 := HO1.out
  rw [Int.toNat_natCast, ← lsF_zero] at HO2
  have hA : OA w (w1.alloc (.cells #[.slice none 0 0] 132)) w1.heap.size v1 (.slice none 0 0) (lsF N (lenF G 0)) (qF G 0) := by
    have e1 : lsF N (lenF G 0) = lsF N (fun _ => 0) := lsF_congr (fun y _ => by simp [lenF])
    rw [e1]
    exact ⟨HB1.out.alloc HB1.out.size _, Kd.R_alloc HO2 _, ⟨blk_new w1 _, Kd.R_nil _ _ _ _ _⟩, HB1.out.size, fun k hk => by simp [Value.ownBlock] at hk⟩
  have HA0 := Aside0.mk hA
  clear hA HO1 HO2 HB1
  generalize w1.alloc (.cells #[.slice none 0 0] 132) = wa at HA0 ⊢
  generalize w1.heap.size = ab at HA0 ⊢
  go_loopg [5, 6, 17] N (fun kq v5 v6 v17 wr => ∃ (i : Nat) (v : Value), v17 = .int .i64 i ∧ i + kq = N ∧ Aside0 (OA w wr ab v1 v (lsF N (lenF G i)) (qF G i)))
  case atStart => exact ⟨0, _, rfl, by omega, HA0⟩
  case round =>
    clear HA0
    obtain ⟨i, v, rfl, hi, HA⟩ := hrel
    by_cases hlt : i < N
    · have hlt' : (i : Int) < (N : Int) := by omega
      obtain ⟨ad, A0, c0, rfl, x0, hcap, _⟩ := at_L1 (Kd.C_below HR.out HA.out.bel) i (by omega) (by rw [HNN.out]; exact hlt')
      rw [rd_row] at x0 hcap
      simp only [Int.toNat_natCast] at x0
      obtain ⟨gb, cl, rfl, n1, n2⟩ := HA.out.form (lsF_length _ _) (by omega)
      obtain ⟨y0, y1⟩ := HA.out.cell hlt
      have z0 := HA.out.q.cell
      have HP := Aside0.mk (HA.out.put i ((row G (i : Int)).length : Int))
      have hset := lenF_set G (i := i)
      rw [HNN.out] at hset
      rw [hset] at HP
      clear hset
      have HQ := Aside0.mk (qF_succ G i)
      have HLR := HRO.out i (by rw [HNN.out]; exact hlt)
      obtain ⟨m, hm⟩ : ∃ m, (row G (i : Int)).length = m := ⟨_, rfl⟩
      rw [hm] at x0 hcap HP HQ HLR
      clear hm
      by_cases hm0 : m = 0
      · subst hm0
        rw [if_pos rfl] at HQ
        have hql := qF_length G i
        generalize qF G i = xs at HP HQ HA hql
        rw [show ((0 : Nat) : Int) = 0 from rfl] at HP
        have HSZ : Aside0 (wr.heap.size = (wr.setCell ⟨gb, i, none⟩ (.int .i64 0)).heap.size) := ⟨by simp [World.setCell]⟩
        go_wp2_with ((with_reducible refine gate_builtin (b := .append) (xs := #[.tmp 32, .tmp 34]) rfl ?_); at_builtin; refine Kd.R_append (Kd.int .i64) (w0 := wr.setCell ⟨gb, i, none⟩ (.int .i64 0)) w.heap.size rfl (.tmp 32) (.tmp 34) 132 3 (.int .i64 0) 8 rfl Try.underlying132 info3 rfl (by decide) (by decide) v xs (i : Int) [.int .i64 (i : Int)] (fun _ => True) (fun _ => False) rfl (congrArg (fun n => Value.slice (some ⟨n, 0, none⟩) 1 1) HSZ.out) ?aP (fun _ hk => hk.elim) ?aF ?aO ?aB ?aS ?aL ?_; (case aP => exact rfl); (case aF => exact fun _ _ => trivial); (case aO => exact HP.out.q.row); (case aB => exact Below.refl _ _); (case aS => exact HP.out.bel.size); (case aL => omega); intro v5 w5 ho hb5 hg hat; obtain ⟨A1, cc1, ev1⟩ := Kd.R_slice ho; subst ev1; have k1 := (blk_cell (blk_grown HP.out.q.blk hg (HP.out.q.ne)) 0).trans (show _ = some v from rfl); have k2 := blk_frozen (blk_grown HP.out.q.blk hg (HP.out.q.ne)) 0; have HO := Aside0.mk ho; have HG := Aside0.mk hg; have HAT := Aside0.mk hat; clear ho hb5 hg hat)
        have HT := Turn.stored HP.out.q HG.out HO.out HAT.out
        have HN := Aside0.mk (HP.out.turn HT.2 HT.1)
        have e9 : (xs ++ [(i : Int)]).length = xs.length + 1 := by simp
        rw [e9, ← HQ.out] at HN
        clear HT HO HG HAT k1 k2 e9
        go_roundg (gk - 1)
        case measure => omega
        case rel => exact ⟨i + 1, _, by go_num, by omega, HN⟩
      · rw [if_neg hm0, List.append_nil] at HQ
        have hb : (((m : Nat) : Int) == 0) = false := by simpa using hm0
        go_wp2_with fail
        rw [← HQ.out] at HP
        go_roundg (gk - 1)
        case measure => omega
        case rel => exact ⟨i + 1, v, by go_num, by omega, HP⟩
    · have hiN : i = N := by omega
      subst hiN
      have HA1 := HA
      have e1 := lenF_all G
      have e2 := qF_all G
      rw [HNN.out] at e1 e2
      rw [e1, e2] at HA1
      have HRD := Aside0.mk (rdy_sorted G [])
      clear e1 e2 HA hi hlt
      go_wp2_with fail
      refine (hinit_calls _ _ _ _ _ HA1.out.q (heap_of_sorted (le_of_lts HRD.out)) (Nat.le_trans (rdy_length G []) (by rw [HNN.out]; omega))).mono ?_
      rintro e w2 ⟨rfl, hI, hF⟩
      have HA2 := Aside0.mk (HA1.out.turn (Turn.own hF) hI)
      clear hI hF HA1
      go_wp2_with fail
      obtain ⟨ky, hky⟩ := HY.out
      have HRC := Aside0.mk (Kd.C_below HR.out HA2.out.bel)
      have HCC := HC.out
      have hnn := HNN.out
      have C := wave_young.calls ky A c G (dnF G) w2 HRC.out HC.out hky
      rw [hnn] at C
      refine C.mono ?_
      clear C
      rintro e w3 ⟨vd, rfl, hS, hB⟩
      have H3 := Aside0.mk (OI.of HA2.out (Kd.S_R hS) hB)
      clear hS hB HA2 hky HRC HCC hnn
      have HG0 : Aside0 (Good (rdy G []) (rdy G [])) := ⟨⟨heap_of_sorted (le_of_lts HRD.out), List.Perm.refl _, le_of_lts HRD.out⟩⟩
      generalize w2.heap.size = s1 at H3 ⊢
      generalize w3.heap.size = s2 at H3 ⊢
      go_wp2_with fail
      go_loopg [8] i (fun kq v8 wr => ∃ (out q : List Int) (vq vx : Value) (xs : List Int), out.length + kq = i ∧ Aside0 (St G out) ∧ Aside0 (ordL G kq out = ordA G) ∧ Aside0 (Good q (rdy G out)) ∧ Aside0 (OI w wr ab s1 s2 v1 vq vd vx v8 (lsF i (fun y => (cnt G out (y : Int) : Int))) q (dnF G) xs out))
      case atStart => exact ⟨[], _, _, _, _, by simp, ⟨St.nil G⟩, ⟨by unfold ordA; rw [HNN.out]⟩, HG0, H3⟩
      case round =>
        clear H3 HG0
        obtain ⟨out, q, vq, vx, xs, hk, HST, HL, HGD, HI⟩ := hrel
        have hst := HST.out.len
        rw [HNN.out] at hst
        obtain ⟨A2, c2, rfl⟩ := Kd.R_slice HI.out.a.q.row
        have z0 := HI.out.a.q.cell
        cases hrd : rdy G out with
        | nil =>
          rw [hrd] at HGD
          have hq0 : q = [] := List.Perm.eq_nil HGD.out.perm
          subst hq0
          have HOU : Aside0 (ordA G = out) := ⟨by rw [← HL.out]; cases gk <;> simp [ordL, hrd]⟩
          clear hrd HGD
          rw [List.length_nil] at z0
          go_wp2_with fail
          refine (qlen_calls _ _ _ wr).mono ?_
          rintro e w4 ⟨rfl, rfl⟩
          go_wp2_with fail
          go_ret
          rw [HOU.out]
          exact ⟨_, rfl, Kd.R_mono (Kd.R_lower (Kd.R_bound HI.out.out) (by have := HI.out.s; have := HI.out.a.ab0; omega)) (fun k hk => by have := hk.2.1; have := HI.out.s; have := HI.out.a.ab0; omega), HI.out.a.bel⟩
        | cons a t =>
          rw [hrd] at HGD
          have hq1 : 0 < q.length := by rw [HGD.out.perm.length_eq]; simp
          have hql : q.length ≤ i := by
            rw [HGD.out.perm.length_eq, ← hrd]
            have := rdy_length G out
            rw [HNN.out] at this
            exact this
          have HRDY := Aside0.mk hrd
          have hma : a ∈ rdy G out := by rw [hrd]; exact List.mem_cons_self
          obtain ⟨a0, a1, a2, _⟩ := mem_rdy.1 hma
          rw [HNN.out] at a1
          obtain ⟨an, rfl⟩ : ∃ n : Nat, a = n := ⟨a.toNat, by omega⟩
          have HST2 := Aside0.mk (HST.out.next hma)
          have hlen2 := HST2.out.len
          rw [HNN.out, List.length_append, List.length_singleton] at hlen2
          have HNA := Aside0.mk a2
          clear hrd hma a2 a0
          obtain ⟨gk', rfl⟩ : ∃ g', gk = g' + 1 := ⟨gk - 1, by omega⟩
          have HL2 : Aside0 (ordL G gk' (out ++ [(an : Int)]) = ordA G) := ⟨by rw [← HL.out]; simp [ordL, HRDY.out]⟩
          obtain ⟨qb, cq, eq1, n3⟩ := HI.out.a.q.form hq1
          injection eq1 with eq1 _ eq3
          subst eq1
          obtain ⟨x0, _⟩ := QR.elem HI.out.a.q.row (i := 0) hq1
          rw [HGD.out.head] at x0
          clear eq3
          go_wp2_with fail
          refine (qlen_calls _ _ _ wr).mono ?_
          rintro e w4 ⟨rfl, rfl⟩
          have hqd : decide ((0 : Int) < (q.length : Int)) = true := decide_eq_true (by omega)
          go_wp2_with fail
          refine (hpop_calls _ _ _ q w4 HI.out.a.q hq1 (by omega)).mono ?_
          rintro e w5 ⟨rfl, vq, hI, hT, hv⟩
          have HI5 := Aside0.mk (HI.out.turn hT hI)
          have HGD5 := Aside0.mk (Good.pop HGD.out).2
          clear hI hT hv HI HGD x0 z0 n3 hqd hq1 hql
          generalize popL q = q5 at HI5 HGD5
          have hol : out.length < 10000 := by omega
          go_wp2_with ((with_reducible refine gate_builtin (b := .append) (xs := #[.tmp 49, .tmp 51]) rfl ?_); at_builtin; refine Kd.R_append (Kd.int .i64) (w0 := w5) s2 rfl (.tmp 49) (.tmp 51) 25 3 (.int .i64 0) 8 rfl Try.underlying25 info3 rfl (by decide) (by decide) u8 out (an : Int) [.int .i64 (an : Int)] (fun _ => True) (fun _ => False) rfl rfl ?aP (fun _ hk => hk.elim) ?aF ?aO ?aB ?aS ?aL ?_; (case aP => exact rfl); (case aF => exact fun _ _ => trivial); (case aO => exact HI5.out.out); (case aB => exact Below.refl _ _); (case aS => exact HI5.out.s.2.2); (case aL => omega); intro v6 w6 ho hb6 hg hat; have HI6 := Aside0.mk (HI5.out.app ho hg hat); clear ho hb6 hg hat HI5; obtain ⟨ad, cd, vr, hvd, hcell, hI7⟩ := HI6.out.row an (by rw [dnF_length, HNN.out]; omega); rw [dnF_length, HNN.out] at hvd; subst hvd; rw [dnF_rd G (by rw [HNN.out]; omega)] at hI7; obtain ⟨Ax, cx, hvx⟩ := Kd.R_slice hI7.x; subst hvx; have HI7 := Aside0.mk hI7; clear hI7 HI6)
          obtain ⟨dl, hdl⟩ : ∃ dl, downs G (an : Int) = dl := ⟨_, rfl⟩
          have HDN : Aside0 (dl.Nodup ∧ (∀ y ∈ dl, 0 ≤ y ∧ y < (i : Int) ∧ (an : Int) ∈ row G y)) := ⟨by
            rw [← hdl]
            exact ⟨(rng_nodup _).filter _, fun y hy => by have := mem_downs.1 hy; rw [HNN.out] at this; exact this⟩⟩
          have HALL : Aside0 (lsF i (cutF G out an dl) = lsF i (fun y => (cnt G (out ++ [(an : Int)]) (y : Int) : Int))) := ⟨by
            have := cutF_all HOK.out HNA.out
            rw [HNN.out, hdl] at this
            exact this⟩
          have HINS : Aside0 (insA t (dl.filter (fun y => decide (cnt G (out ++ [(an : Int)]) y = 0))) = rdy G (out ++ [(an : Int)])) := ⟨by
            rw [← hdl]; exact insA_ready HOK.out HST.out HRDY.out⟩
          have HTL : Aside0 (t.length ≤ i) := ⟨by
            have := rdy_length G out
            rw [HRDY.out, HNN.out, List.length_cons] at this
            omega⟩
          have hdlen : dl.length ≤ i := by
            rw [← hdl]
            refine Nat.le_trans (List.length_filter_le _ _) ?_
            rw [rng_length, HNN.out]; exact Nat.le_refl _
          rw [hdl] at HI7 ⊢
          clear hdl hol
          go_loopg [58] dl.length (fun kq v58 wr => ∃ (j : Nat) (q : List Int) (vq : Value), v58 = .int .i64 j ∧ j + kq = dl.length ∧ Aside0 (Good q (insA t ((dl.take j).filter (fun y => decide (cnt G (out ++ [(an : Int)]) y = 0))))) ∧ Aside0 (OI w wr ab s1 s2 v1 vq (.slice (some ad) i cd) (.slice Ax dl.length cx) v6 (lsF i (cutF G out an (dl.take j))) q (dnF G) dl (out ++ [(an : Int)])))
          case atStart => exact ⟨0, q5, _, rfl, by omega, ⟨by simpa [insA] using HGD5.out⟩, ⟨by rw [List.take_zero, cutF_nil]; exact HI7.out⟩⟩
          case round =>
            clear HI7 HGD5
            obtain ⟨j, q, vq, rfl, hj, HGQ, HI⟩ := hrel
            by_cases hlt : j < dl.length
            · have hlt' : (j : Int) < (dl.length : Int) := by omega
              obtain ⟨adx, rfl, x0⟩ := Kd.at_int (Kd.R_reads' HI.out.x).2.2 j (by omega) hlt'
              simp only [Int.toNat_natCast] at x0
              obtain ⟨y, hyy⟩ : ∃ y : Nat, dl[j] = (y : Int) := ⟨(dl[j]).toNat, by have := (HDN.out.2 _ (List.getElem_mem hlt)).1; omega⟩
              have er : rd dl (j : Int) = (y : Int) := by rw [← hyy]; simp [rd, hlt]
              rw [er] at x0
              have hyin := HDN.out.2 _ (List.getElem_mem hlt)
              rw [hyy] at hyin
              obtain ⟨_, hyi, hyr⟩ := hyin
              have HYR := Aside0.mk hyr
              have htk : dl.take (j + 1) = dl.take j ++ [(y : Int)] := by rw [List.take_succ_eq_append_getElem hlt, hyy]
              have hnt : (y : Int) ∉ dl.take j := fun h => by
                have h1 := HDN.out.1
                have h2 : (dl.take (j + 1)).Nodup := h1.sublist (List.take_sublist _ _)
                rw [htk, List.nodup_append] at h2
                exact h2.2.2 _ h _ (by simp) rfl
              have HTK := Aside0.mk htk
              have hcs := cnt_step HOK.out HNA.out (y := (y : Int)) (by omega) (by rw [HNN.out]; exact hyi)
              rw [if_pos HYR.out] at hcs
              have hcf : cutF G out an (dl.take j) y = (cnt G (out ++ [(an : Int)]) (y : Int) : Int) + 1 := by
                unfold cutF
                rw [if_neg hnt, ← hcs]
                omega
              have hcle : cnt G out (y : Int) ≤ 1000000 := by
                unfold cnt
                refine Nat.le_trans (List.length_filter_le _ _) (HRO.out y (by rw [HNN.out]; omega))
              have hyN : y < i := by omega
              obtain ⟨gb, cl, rfl, n1, n2⟩ := HI.out.a.form (lsF_length _ _) (by omega)
              obtain ⟨z0, z1⟩ := HI.out.a.cell hyN
              rw [lsF_rd _ hyN, hcf] at z0
              have HGS : Aside0 (insA t ((dl.take (j + 1)).filter (fun y => decide (cnt G (out ++ [(an : Int)]) y = 0))) = if cnt G (out ++ [(an : Int)]) (y : Int) = 0 then ins (y : Int) (insA t ((dl.take j).filter (fun y => decide (cnt G (out ++ [(an : Int)]) y = 0)))) else insA t ((dl.take j).filter (fun y => decide (cnt G (out ++ [(an : Int)]) y = 0)))) := ⟨by
                rw [HTK.out, List.filter_append]
                by_cases h : cnt G (out ++ [(an : Int)]) (y : Int) = 0
                · rw [if_pos h, List.filter_cons, if_pos (by simpa using h)]
                  exact insA_snoc _ _ _
                · rw [if_neg h, List.filter_cons, if_neg (by simpa using h)]
                  simp⟩
              have HP := Aside0.mk (HI.out.put y (cnt G (out ++ [(an : Int)]) (y : Int) : Int))
              have hset := cutF_set (G := G) (out := out) (a := (an : Int)) (dl := dl.take j) (y := y) _ rfl
              rw [HNN.out] at hset
              rw [hset, ← HTK.out] at HP
              have hql : q.length ≤ 30000 := by
                have h1 := HGQ.out.perm.length_eq
                have h2 := (insA_perm ((dl.take j).filter (fun y => decide (cnt G (out ++ [(an : Int)]) y = 0))) t).length_eq
                have h3 : ((dl.take j).filter (fun y => decide (cnt G (out ++ [(an : Int)]) y = 0))).length ≤ j := Nat.le_trans (List.length_filter_le _ _) (List.length_take_le _ _)
                have h4 := HTL.out
                rw [List.length_append] at h2
                omega
              clear hset hyy er hyr htk hnt hcf HI
              generalize insA t ((dl.take j).filter (fun y => decide (cnt G (out ++ [(an : Int)]) y = 0))) = I1 at HGS HGQ
              obtain ⟨m, hm⟩ : ∃ m, cnt G (out ++ [(an : Int)]) (y : Int) = m := ⟨_, rfl⟩
              rw [hm] at z0 HGS HP hcs
              have hmle : m ≤ 1000000 := by omega
              clear hm hcs hcle
              by_cases hm0 : m = 0
              · subst hm0
                rw [if_pos rfl] at HGS
                rw [show ((0 : Nat) : Int) = 0 from rfl] at HP z0
                have C := hpush_calls w.heap.size ab vq q (y : Int) _ HP.out.a.q HP.out.a.bel.size (by omega)
                go_wp2_with fail
                refine C.mono ?_
                clear C
                rintro e w8 ⟨rfl, vq', hI, hT⟩
                have HI8 := Aside0.mk (HP.out.turn hT hI)
                have HG8 := Aside0.mk (HGQ.out.push (y : Int) q.length (Nat.le_refl _))
                rw [← HGS.out] at HG8
                clear hI hT HP HGS
                go_wp2_with fail
                go_roundg (dl.length - (j + 1))
                case measure => omega
                case rel => exact ⟨j + 1, _, _, by go_num, by omega, HG8, HI8⟩
              · rw [if_neg hm0] at HGS
                rw [← HGS.out] at HGQ
                have hb : (((m : Nat) : Int) == 0) = false := by simpa using hm0
                go_wp2_with fail
                go_roundg (dl.length - (j + 1))
                case measure => omega
                case rel => exact ⟨j + 1, q, vq, by go_num, by omega, HGQ, HP⟩
            · have hje : dl.take j = dl := List.take_of_length_le (by omega)
              rw [hje, HINS.out] at HGQ
              rw [hje, HALL.out] at HI
              clear hje
              go_wp2_with fail
              go_roundg gk'
              case measure => omega
              case rel => exact ⟨out ++ [(an : Int)], q, vq, _, dl, by rw [List.length_append, List.length_singleton]; omega, HST2, HL2, HGQ, HI⟩
end Go.Proofs.Ytkeadpichlgagaa.Wv
