/- wave: Behind, walked. -/
import Derived.Test.YtkeadpichlgagaaWvI
import Derived.Test.YtkeadpichlgagaaWvK
import Derived.Test.YtkeadpichlgagaaWvJ
namespace Go.Proofs.Ytkeadpichlgagaa.Wv
open Go.RowKit Go.Maps Go.Proofs.YtkeadpichlgagaaW.PrintWords Go.Proofs.YtkeadpichlgagaaW.PrintLast Go.Proofs.YtkeadpichlgagaaW.PrintMore
open Go.Proofs.Ytkeadpichlgagaa.PWaveReady Go.Proofs.Ytkeadpichlgagaa.Mp
set_option linter.unusedVariables false
set_option linter.unusedSimpArgs false
set_option linter.unnecessarySimpa false

theorem info4 : (Try.prog.info? 4).map (fun i => (i.zero, i.size, i.bytes)) = some (some (.bool false), 1, 1) := by kernel_rfl
theorem Rb_move {w w1 : World} {base e : Nat} {ok : Nat → Prop} {v : Value} {xs : List Bool} (h : Kd.bool.R e w base ok v xs) (hm : ∀ k, v.ownBlock = some k → w1.heap[k]? = w.heap[k]?) : Kd.bool.R e w1 base ok v xs := by
  have h1 : Kd.bool.R e w base (fun k => v.ownBlock = some k ∧ ok k) v xs := Kd.R_flat (d := Kd.bool) (fun h => h) h (fun k hk ho => ⟨hk, ho⟩)
  exact Kd.R_mono (Kd.R_move h1 (fun k hk => hm k hk.1)) (fun k hk => hk.2)
def behR (G : Gr) (n : Int) : List Int := if ordE G = 0 ∧ 0 ≤ n ∧ n < G.length then (rng G.length).filter (ld G n) else []
/-- Is it marked? -/
def inB (q : List Bool) (e : Int) : Bool := q.getD e.toNat false
theorem Rb_cell {e g N c B : Nat} {ok : Nat → Prop} {w : World} {xs : List Bool} (h : Kd.bool.R e w B ok (.slice (some ⟨g, 0, none⟩) N c) xs) {i : Nat} (hi : i < N) : w.cell? ⟨g, i, none⟩ = some (.bool (inB xs (i : Int))) ∧ w.frozen? ⟨g, i, none⟩ = false := by
  obtain ⟨rfl, _, _⟩ := Kd.R_reads' h
  have := Kd.R_cell false h (i : Int) (by omega) (by omega)
  rwa [Int.toNat_natCast] at this
theorem Rb_put {e g N c B : Nat} {ok : Nat → Prop} {w : World} {xs : List Bool} (h : Kd.bool.R e w B ok (.slice (some ⟨g, 0, none⟩) N c) xs) (i : Nat) (x : Bool) : Kd.bool.R e (w.setCell ⟨g, i, none⟩ (.bool x)) B ok (.slice (some ⟨g, 0, none⟩) N c) (xs.set i x) := by
  obtain ⟨rfl, _, _⟩ := Kd.R_reads' h
  have := (Kd.R_put h (i : Int) x).1
  rwa [Int.toNat_natCast] at this
set_option maxRecDepth 100000 in
theorem in_calls (bx : Nat) (A : Option Addr) (c : Nat) (q : List Bool) (e : Int) (w : World) (hb : w.cell? ⟨bx, 0, none⟩ = some (.slice A q.length c)) (hC : Kd.bool.C w A q.length q) (he : 0 ≤ e) (he2 : e < q.length) :
    Calls Try.prog 75 #[.int .i64 e, .pointer (some ⟨bx, 0, none⟩)] w fun e' w' => e' = .returned (.bool (inB q e)) ∧ w' = w := by
  obtain ⟨ad, rfl, x0⟩ := Kd.at_bool hC e he he2
  have hmax := hC.2.1
  clear hC
  have er : rdOf false q e = inB q e := rfl
  rw [er] at x0
  obtain ⟨n, rfl⟩ : ∃ n : Nat, e = n := ⟨e.toNat, by omega⟩
  simp only [Int.toNat_natCast] at x0
  generalize inB q (n : Int) = r at x0 ⊢
  go_enter Try.func75, Try.ntmps75
  go_wp2_with fail
  go_ret
  exact ⟨rfl, rfl⟩

set_option maxHeartbeats 2000000 in
set_option maxRecDepth 100000 in
theorem behind_calls (n : Int) (A : Option Addr) (c : Nat) (G : Gr) (w : World) (hr : GC w A G) (hc : G.length ≤ c) (hz : Gsz G) :
    Calls Try.prog 25 #[.int .i64 n, .slice A G.length c] w fun e w' => ∃ v, e = .returned v ∧ IR w' w.heap.size v (behR G n) ∧ Below w.heap.size w w' := by
  have HR := Aside0.mk hr
  have HZ := Aside0.mk hz
  clear hr hz
  go_enter Try.func25, Try.ntmps25
  go_wp2_with fail
  refine (worder_calls A c G w HR.out hc HZ.out).mono ?_
  rintro e w1 ⟨v, rfl, hv, hb⟩
  rw [ordR_snd]
  have HB := Aside0.mk hb
  by_cases h0 : ordE G = 0
  · have e1 : (ordR G).1 = ordA G := by unfold ordR; rw [if_pos h0]
    rw [e1] at hv
    have HV := Aside0.mk hv
    have H0 := Aside0.mk h0
    rw [h0]
    clear hb hv e1 h0
    by_cases hn : 0 ≤ n ∧ n < G.length
    · have HRT := Aside0.mk (rt_of H0.out)
      obtain ⟨hn0, hn1⟩ := hn
      have HBR : Aside0 (behR G n = (rng G.length).filter (ld G n)) := ⟨by unfold behR; rw [if_pos ⟨H0.out, hn0, hn1⟩]⟩
      have HBA := Aside0.mk (behA_at (g := G) hn0 hn1)
      obtain ⟨m, rfl⟩ : ∃ m : Nat, n = m := ⟨n.toNat, by omega⟩
      obtain ⟨Av, cv, rfl⟩ := Kd.R_slice HV.out
      have hzn := HZ.out.n
      obtain ⟨N, hN⟩ : ∃ N, G.length = N := ⟨_, rfl⟩
      have HNN := Aside0.mk hN
      rw [hN] at hzn hc hn1 ⊢
      clear hN
      obtain ⟨M, hM⟩ : ∃ M, (ordA G).length = M := ⟨_, rfl⟩
      have HMM := Aside0.mk hM
      have HMN : Aside0 (M = N) := ⟨by rw [← hM, HRT.out.all, HNN.out]⟩
      rw [hM] at HV ⊢
      clear hM
      have hMle : M ≤ N := by have := HMN.out; omega
      have hmN : m < N := by omega
      have hd1 : decide ((m : Int) < 0) = false := decide_eq_false (by omega)
      have hd2 : decide (N ≤ m) = false := decide_eq_false (by omega)
      go_wp2_with ((with_reducible refine gate_dst (N := 30) rfl ?_); refine Kd.R_make Kd.bool w1.heap.size 4 rfl (N := 30) rfl 34 _ _ rfl (N : Int) rfl rfl Try.underlying34 (.bool false) 1 info4 rfl (by decide) (by decide) false (ok := fun _ => True) (okp := fun _ => False) rfl (fun _ hk => hk.elim) trivial (by omega) (by omega) (Below.refl _ _) (Nat.le_refl _) ?_; intro v2 w2 ho hb hg hnew; rw [Int.toNat_natCast] at ho; obtain ⟨gb, cb, ev2, hgb, _, _⟩ := Kd.R_form ho (by rw [List.length_replicate]; omega); rw [List.length_replicate] at ev2; subst ev2; have kk := Rb_cell ho hmN; obtain ⟨k0, k1⟩ := kk; have HO2 := Aside0.mk ho; have HB2 := Aside0.mk hb; have HGB := Aside0.mk hgb; clear ho hb hg hnew hgb)
      have hbx : gb ≠ w2.heap.size := by have := Kd.R_lt HO2.out gb rfl; omega
      have hszw : (w2.setCell ⟨gb, m, none⟩ (.bool true)).heap.size = w2.heap.size := by simp [World.setCell]
      have HX := Aside0.mk (blk_new (w2.setCell ⟨gb, m, none⟩ (.bool true)) (.cells #[.slice (some ⟨gb, 0, none⟩) N cb] 34))
      rw [hszw] at HX
      have HIN := Aside0.mk (Kd.R_alloc (Rb_put HO2.out m true) (.cells #[.slice (some ⟨gb, 0, none⟩) N cb] 34))
      have HB3 := Aside0.mk ((HB2.out.setCell (p := ⟨gb, m, none⟩) HGB.out (.bool true)).alloc (by rw [hszw]; exact HB2.out.size) (.cells #[.slice (some ⟨gb, 0, none⟩) N cb] 34))
      clear hszw
      generalize (w2.setCell ⟨gb, m, none⟩ (.bool true)).alloc (.cells #[.slice (some ⟨gb, 0, none⟩) N cb] 34) = w3 at HX HIN HB3 ⊢
      generalize w2.heap.size = bx at HX hbx ⊢
      clear HO2 HB2 k0 k1
      have HS : Aside0 (gb < w3.heap.size ∧ bx < w3.heap.size) := ⟨Kd.R_lt HIN.out gb rfl, blk_lt HX.out⟩
      go_loopg [8, 36] M (fun kq v8 v36 wr => ∃ (i : Nat) (q : List Bool × List Int), v36 = .int .i64 i ∧ i + kq = M ∧ Aside0 (q.1.length = N) ∧ Aside0 (q.2.length ≤ i) ∧ Aside0 ((behL G ((ordA G).drop i) q).2 = behA G (m : Int)) ∧ Aside0 (wr.heap[bx]? = some (.cells #[.slice (some ⟨gb, 0, none⟩) N cb] 34 (0, 0))) ∧ Aside0 (Kd.bool.R 4 wr w1.heap.size (fun _ => True) (.slice (some ⟨gb, 0, none⟩) N cb) q.1) ∧ Aside0 ((Kd.int .i64).R 3 wr w3.heap.size (fun k => w3.heap.size ≤ k) v8 q.2) ∧ Aside0 (Below w1.heap.size w1 wr) ∧ Aside0 (w3.heap.size ≤ wr.heap.size))
      case atStart => exact ⟨0, ((List.replicate N false).set m true, []), rfl, by omega, ⟨by simp⟩, ⟨Nat.le_refl _⟩, ⟨by rw [List.drop_zero]; unfold behA; rw [HNN.out, Int.toNat_natCast]⟩, HX, HIN, ⟨Kd.R_nil _ _ _ _ _⟩, HB3, ⟨Nat.le_refl _⟩⟩
      case round =>
        clear HX HIN HB3
        obtain ⟨i, q, rfl, hi, HQL, HQ2, HBH, HX, HIN, HOU, HBL, HZS⟩ := hrel
        by_cases hlt : i < M
        · have hlt' : (i : Int) < (M : Int) := by omega
          have hia : i < (ordA G).length := by rw [HMM.out]; exact hlt
          obtain ⟨adv, eav, x0⟩ := Kd.at_int (Kd.R_reads' (Kd.R_below HV.out HBL.out)).2.2 i (by omega) (by rw [HMM.out]; exact hlt')
          subst eav
          simp only [Int.toNat_natCast] at x0
          have hin := (ordA_st G).inn _ (List.getElem_mem hia)
          obtain ⟨x, hx⟩ : ∃ x : Nat, (ordA G)[i] = (x : Int) := ⟨((ordA G)[i]).toNat, by omega⟩
          have er : rd (ordA G) (i : Int) = (x : Int) := by rw [← hx]; simp [rd, hia]
          rw [er] at x0
          rw [hx] at hin
          have hxN : x < N := by have := HNN.out; omega
          have HDR : Aside0 ((ordA G).drop i = (x : Int) :: (ordA G).drop (i + 1)) := ⟨by rw [List.drop_eq_getElem_cons hia, hx]⟩
          have hxN' : (x : Int) < (N : Int) := by omega
          have HRW := Aside0.mk (Kd.C_below HR.out (HB.out.trans (HBL.out.mono HB.out.size)))
          obtain ⟨adr, A1, c1, ear, y0, hcap, hC1⟩ := at_L1 HRW.out x (by omega) (by rw [HNN.out]; exact hxN')
          subst ear
          rw [rd_row] at y0 hcap hC1
          simp only [Int.toNat_natCast] at y0
          have HC1 := Aside0.mk hC1
          have hel : ∀ e ∈ row G (x : Int), 0 ≤ e ∧ e < (N : Int) := fun e he => by have := HRT.out.ok.at' x (by omega) (by rw [HNN.out]; omega) e he; rw [HNN.out] at this; exact ⟨this.1, this.2.1⟩
          have z0 := (blk_cell HX.out 0).trans (show _ = some (Value.slice (some ⟨gb, 0, none⟩) N cb) from rfl)
          have HAS : Aside0 (Asks 75 bx (inB q.1) (row G (x : Int)) wr) := ⟨⟨cf75, fun e he W hW => by
            obtain ⟨e0, e1⟩ := hel e he
            have hR := Kd.R_reads' (Kd.R_below HIN.out hW)
            have hl := HQL.out
            refine (in_calls bx (some ⟨gb, 0, none⟩) cb q.1 e W (by rw [hl]; exact (hW.cell (cell_lt z0)).trans z0) hR.2.2 e0 (by rw [hl]; exact e1)).mono (fun e' w' ⟨h1, h2⟩ => ⟨h1, by rw [h2]; exact Below.refl _ _⟩)⟩⟩
          have HAN := Aside0.mk (any_calls 75 bx (inB q.1) A1 c1 (row G (x : Int)) wr HC1.out HAS.out)
          have HBN : Aside0 ((behL G ((ordA G).drop (i + 1)) (if (row G (x : Int)).any (inB q.1) then (q.1.set x true, q.2 ++ [(x : Int)]) else q)).2 = behA G (m : Int)) := ⟨by
            have := HBH.out
            rw [HDR.out] at this
            rw [← this]
            rfl⟩
          clear hel hC1 HAS hin hx er hia
          generalize (row G (x : Int)).any (inB q.1) = an at HAN HBN
          generalize row G (x : Int) = rl at y0 hcap HC1 HAN
          go_wp2_with fail
          refine HAN.out.mono ?_
          rintro e w5 ⟨rfl, hb⟩
          have HX5 := Aside0.mk (blk_below HX.out hb)
          have HIN5 := Aside0.mk (Kd.R_below HIN.out hb)
          have HOU5 := Aside0.mk (Kd.R_below HOU.out hb)
          have HBL5 := Aside0.mk (HBL.out.trans (hb.mono HBL.out.size))
          have HZ5 : Aside0 (w3.heap.size ≤ w5.heap.size) := ⟨Nat.le_trans HZS.out hb.size⟩
          clear hb HAN
          cases an with
          | false =>
            rw [if_neg (by simp)] at HBN
            go_wp2_with fail
            go_roundg (M - (i + 1))
            case measure => omega
            case rel => exact ⟨i + 1, q, by go_num, by omega, HQL, ⟨by have := HQ2.out; omega⟩, HBN, HX5, HIN5, HOU5, HBL5, HZ5⟩
          | true =>
            rw [if_pos rfl] at HBN
            obtain ⟨q1, q2⟩ := q
            have z5 := (blk_cell HX5.out 0).trans (show _ = some (Value.slice (some ⟨gb, 0, none⟩) N cb) from rfl)
            obtain ⟨k0, k1⟩ := Rb_cell HIN5.out hxN
            have HX6 := Aside0.mk (blk_far HX5.out (p := ⟨gb, x, none⟩) hbx.symm (.bool true))
            have HIN6 := Aside0.mk (Rb_put HIN5.out x true)
            have HOU6 := Aside0.mk (Kd.R_far HOU5.out (p := ⟨gb, x, none⟩) (fun k hk => by have := HS.out.1; show k ≠ gb; omega) (.bool true))
            have HBL6 := Aside0.mk (HBL5.out.setCell (p := ⟨gb, x, none⟩) HGB.out (.bool true))
            have HSZ : Aside0 (w5.heap.size = (w5.setCell ⟨gb, x, none⟩ (.bool true)).heap.size) := ⟨by simp [World.setCell]⟩
            have HZ6 : Aside0 (w3.heap.size ≤ (w5.setCell ⟨gb, x, none⟩ (.bool true)).heap.size) := ⟨by rw [← HSZ.out]; exact HZ5.out⟩
            have hq2 : q2.length ≤ i := HQ2.out
            go_wp2_with ((with_reducible refine gate_builtin (b := .append) (xs := #[.tmp 49, .tmp 51]) rfl ?_); at_builtin; refine Kd.R_append (Kd.int .i64) (w0 := w5.setCell ⟨gb, x, none⟩ (.bool true)) w3.heap.size rfl (.tmp 49) (.tmp 51) 25 3 (.int .i64 0) 8 rfl Try.underlying25 info3 rfl (by decide) (by decide) u8 q2 (x : Int) [.int .i64 (x : Int)] (fun k => w3.heap.size ≤ k) (fun _ => False) rfl (congrArg (fun n => Value.slice (some ⟨n, 0, none⟩) 1 1) HSZ.out) ?aP (fun _ hk => hk.elim) ?aF ?aO ?aB ?aS ?aL ?_; (case aP => exact rfl); (case aF => exact fun k hk => Nat.le_trans HZ6.out hk); (case aO => exact HOU6.out); (case aB => exact Below.refl _ _); (case aS => exact HZ6.out); (case aL => omega); intro v6 w6 ho6 hb6 hg6 hat6; have HO6 := Aside0.mk ho6; have HB6 := Aside0.mk hb6; clear ho6 hb6 hg6 hat6)
            have HX7 : Aside0 (w6.heap[bx]? = some (.cells #[.slice (some ⟨gb, 0, none⟩) N cb] 34 (0, 0))) := ⟨(HB6.out.block bx HS.out.2).trans HX6.out⟩
            have HIN7 : Aside0 (Kd.bool.R 4 w6 w1.heap.size (fun _ => True) (.slice (some ⟨gb, 0, none⟩) N cb) (q1.set x true)) := ⟨Rb_move HIN6.out (fun k hk => by
              have e : gb = k := by simpa [Value.ownBlock] using hk
              rw [← e]
              exact HB6.out.block gb HS.out.1)⟩
            have HBL7 : Aside0 (Below w1.heap.size w1 w6) := ⟨HBL6.out.trans (HB6.out.mono (Nat.le_trans HGB.out (Nat.le_of_lt HS.out.1)))⟩
            have HZ7 : Aside0 (w3.heap.size ≤ w6.heap.size) := ⟨Nat.le_trans HZ6.out HB6.out.size⟩
            go_roundg (M - (i + 1))
            case measure => omega
            case rel => exact ⟨i + 1, (q1.set x true, q2 ++ [(x : Int)]), by go_num, by omega, ⟨by rw [List.length_set]; exact HQL.out⟩, ⟨by rw [List.length_append, List.length_singleton]; omega⟩, HBN, HX7, HIN7, HO6, HBL7, HZ7⟩
        · have HFN : Aside0 (q.2 = (ordA G).filter (ld G (m : Int))) := ⟨by
            have := HBH.out
            rw [List.drop_of_length_le (by rw [HMM.out]; omega), HBA.out] at this
            exact this⟩
          have hq2 : q.2.length < 4611686018427387904 := by have := HQ2.out; omega
          have HAS : Aside0 (asc q.2 = behR G (m : Int)) := ⟨by
            rw [HBR.out]
            exact beh_sorted HRT.out (by rw [← HFN.out]; exact asc_perm _) ((asc_sorted q.2).imp (fun h => h))⟩
          go_wp2_with fail
          refine (sort_calls u8 q.2 wr w3.heap.size _ HOU.out hq2).mono ?_
          rintro e w7 ⟨rfl, ho7, hg7⟩
          rw [HAS.out] at ho7
          have HO7 := Aside0.mk ho7
          have HB7 : Aside0 (Below w1.heap.size w1 w7) := ⟨HBL.out.grown hg7 HBL.out.size (fun k hk => by have := HOU.out.1 k hk; have := HS.out.1; have := HGB.out; omega)⟩
          clear ho7 hg7
          go_wp2_with fail
          go_ret
          exact ⟨_, rfl, Kd.R_mono (Kd.R_lower HO7.out (by have := HB.out.size; have := HS.out.1; have := HGB.out; omega)) (fun k hk => by have := HB.out.size; have := HS.out.1; have := HGB.out; omega), HB.out.trans (HB7.out.mono HB.out.size)⟩
    · have HBR : Aside0 (behR G n = []) := ⟨by unfold behR; rw [if_neg (fun h => hn h.2)]⟩
      by_cases hn0 : n < 0
      · have hd1 : decide (n < 0) = true := decide_eq_true hn0
        clear hn
        go_wp2_with fail
        go_ret
        rw [HBR.out]
        exact ⟨_, rfl, Kd.R_nil _ _ _ _ _, HB.out⟩
      · have hd1 : decide (n < 0) = false := decide_eq_false hn0
        have hd2 : decide ((G.length : Int) ≤ n) = true := decide_eq_true (by omega)
        clear hn
        go_wp2_with fail
        go_ret
        rw [HBR.out]
        exact ⟨_, rfl, Kd.R_nil _ _ _ _ _, HB.out⟩
  · have hb2 : (ordE G == 0) = false := by simpa using h0
    have hb3 : (ordE G != 0) = true := by simpa using h0
    have HBR : Aside0 (behR G n = []) := ⟨by unfold behR; rw [if_neg (fun h => h0 h.1)]⟩
    clear h0 hv hb
    generalize ordE G = er at hb2 hb3 ⊢
    go_wp2_with fail
    go_ret
    rw [HBR.out]
    exact ⟨_, rfl, Kd.R_nil _ _ _ _ _, HB.out⟩
end Go.Proofs.Ytkeadpichlgagaa.Wv
