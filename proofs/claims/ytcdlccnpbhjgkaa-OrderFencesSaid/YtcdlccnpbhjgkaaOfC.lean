/- OrderFences, walked. -/
import Derived.Test.YtcdlccnpbhjgkaaOfB
namespace Go.Proofs.Ytcdlccnpbhjgkaa.OfA
open Go.RowKit Go.Proofs.YtcdlccnpbhjgkaaW.PrintWords Go.Proofs.YtcdlccnpbhjgkaaW.PrintLast Go.Proofs.YtcdlccnpbhjgkaaW.PrintMore
open Go.Proofs.Ytcdlccnpbhjgkaa.POrderFences
set_option linter.unusedVariables false
set_option linter.unusedSimpArgs false

theorem may_ref (id ep : Int) (o : S82) : echelonref19_May.f id ep o.f0 o.f1 o.f2 o.f3 = some (mayF id ep o) := by
  unfold echelonref19_May.f echelonref19_Right.f mayF okF
  repeat' split
  all_goals first | rfl | (simp_all; done) | (simp_all; omega) | (exfalso; simp_all; omega)

theorem cell_lt {w : World} {p : Addr} {v : Value} (hc : w.cell? p = some v) : p.block < w.heap.size := by
  rcases Nat.lt_or_ge p.block w.heap.size with h | h
  · exact h
  · simp [World.cell?, Array.getElem?_eq_none h] at hc

structure LI (os : List S82) (f0 f1 : Int) (k : Nat) (id ep first fid fep : Int) (ps : List Int) : Prop where
  pass : passF (os.take k) f0 f1 = (first, fid, fep)
  same : first = 0 → fid = id ∧ fep = ep
  small : ∀ p ∈ ps, p ≤ id
  len : ps.length ≤ k

theorem passF_snoc (l : List S82) (o : S82) : ∀ (i p : Int), passF (l ++ [o]) i p = if (passF l i p).1 = 0 then (if mayF (passF l i p).2.1 (passF l i p).2.2 o = 0 then (0, o.f0, o.f1) else (mayF (passF l i p).2.1 (passF l i p).2.2 o, (passF l i p).2.1, (passF l i p).2.2)) else passF l i p := by
  induction l with
  | nil => intro i p; simp only [List.nil_append, passF, if_true]; rfl
  | cons a l ih =>
    intro i p
    simp only [List.cons_append, passF]
    split
    · exact ih _ _
    · rename_i h; simp [h]

theorem take_rd {os : List S82} {k : Nat} (h : k < os.length) : os.take (k + 1) = os.take k ++ [rd_T82 os k] := by
  rw [List.take_succ_eq_append_getElem h]
  congr 2
  simp [rd_T82, h]

theorem LI.start (os : List S82) (f0 f1 : Int) : LI os f0 f1 0 f0 f1 0 f0 f1 [] := ⟨rfl, fun _ => ⟨rfl, rfl⟩, fun p h => by simp at h, by simp⟩

section
variable {os : List S82} {f0 f1 : Int} {k : Nat} {id ep first fid fep : Int} {ps : List Int}
theorem may_zero {id ep : Int} {o : S82} (h : mayF id ep o = 0) : id < o.f0 ∧ ep ≤ o.f1 := by
  unfold mayF at h
  repeat' split at h
  all_goals omega
theorem LI.go0 (h : LI os f0 f1 k id ep first fid fep ps) (hk : k < os.length) (hm : mayF id ep (rd_T82 os k) = 0) (hf : first = 0) : LI os f0 f1 (k + 1) (rd_T82 os k).f0 (rd_T82 os k).f1 0 (rd_T82 os k).f0 (rd_T82 os k).f1 (ps ++ [(rd_T82 os k).f0]) := by
  obtain ⟨rfl, rfl⟩ := h.same hf
  subst hf
  refine ⟨by rw [take_rd hk, passF_snoc, h.pass]; simp [hm], fun _ => ⟨rfl, rfl⟩, fun p hp => ?_, by have := h.len; simp; omega⟩
  rcases List.mem_append.1 hp with hp | hp
  · have := h.small p hp; have := may_zero hm; omega
  · simp at hp; omega
theorem LI.go1 (h : LI os f0 f1 k id ep first fid fep ps) (hk : k < os.length) (hm : mayF id ep (rd_T82 os k) = 0) (hf : ¬ first = 0) : LI os f0 f1 (k + 1) (rd_T82 os k).f0 (rd_T82 os k).f1 first fid fep (ps ++ [(rd_T82 os k).f0]) := by
  refine ⟨by rw [take_rd hk, passF_snoc, h.pass]; simp [hf], fun h => absurd h hf, fun p hp => ?_, by have := h.len; simp; omega⟩
  rcases List.mem_append.1 hp with hp | hp
  · have := h.small p hp; have := may_zero hm; omega
  · simp at hp; omega
theorem LI.no0 (h : LI os f0 f1 k id ep first fid fep ps) (hk : k < os.length) (hm : ¬ mayF id ep (rd_T82 os k) = 0) (hf : first = 0) : LI os f0 f1 (k + 1) id ep (mayF id ep (rd_T82 os k)) fid fep ps := by
  obtain ⟨rfl, rfl⟩ := h.same hf
  subst hf
  exact ⟨by rw [take_rd hk, passF_snoc, h.pass]; simp [hm], fun h => absurd h hm, h.small, by have := h.len; omega⟩
theorem LI.no1 (h : LI os f0 f1 k id ep first fid fep ps) (hk : k < os.length) (hm : ¬ mayF id ep (rd_T82 os k) = 0) (hf : ¬ first = 0) : LI os f0 f1 (k + 1) id ep first fid fep ps :=
  ⟨by rw [take_rd hk, passF_snoc, h.pass]; simp [hf], fun h => absurd h hf, h.small, by have := h.len; omega⟩
theorem LI.last (h : LI os f0 f1 k id ep first fid fep ps) (hk : ¬ k < os.length) : passF os f0 f1 = (first, fid, fep) := by
  have := h.pass; rwa [List.take_of_length_le (by omega)] at this
end

set_option maxHeartbeats 1000000 in
set_option maxRecDepth 100000 in
theorem law_calls (f0 f1 : Int) (A : Option Addr) (c : Nat) (os : List S82) (w : World) (hr : Kd.C k82 w A os.length os) (hc : os.length ≤ c) :
    Calls Try.prog 11 #[.agg #[.int .i64 f0, .int .i64 f1], .slice A os.length c] w fun e w' => e = .returned (.bool true) ∧ Below w.heap.size w w' := by
  have HR := Aside0.mk hr
  have HC := Aside0.mk hc
  clear hr hc
  have HB0 := Aside0.mk (((Below.refl w.heap.size w).alloc (Nat.le_refl _) (.cells #[.int .i64 f0, .int .i64 f1] 78)))
  have BK0 := Aside0.mk (blk_new w (.cells #[.int .i64 f0, .int .i64 f1] 78))
  by_cases hlen : (100 : Int) < os.length
  · go_enter Try.func11, Try.ntmps11
    go_wp2_with fail
    refine (awake_calls _).mono ?_
    rintro e w1 ⟨rfl, hb⟩
    have HB1 := Aside0.mk (HB0.out.trans (hb.mono (by simp)))
    clear hb
    go_wp2_with fail
    refine (awake_calls _).mono ?_
    rintro e w2 ⟨rfl, hb⟩
    have HB2 := Aside0.mk (HB1.out.trans (hb.mono HB1.out.size))
    clear hb
    go_wp2_with fail
    go_ret
    exact ⟨rfl, HB2.out⟩
  · go_enter Try.func11, Try.ntmps11
    go_wp2_with fail
    refine (awake_calls _).mono ?_
    rintro e w1 ⟨rfl, hb⟩
    have HB1 := Aside0.mk (HB0.out.trans (hb.mono (by simp)))
    have BK1 := Aside0.mk (blk_below BK0.out hb)
    clear hb HB0 BK0
    have g0 : w1.cell? ⟨w.heap.size, 0, none⟩ = some (.int .i64 f0) := (blk_cell BK1.out 0).trans rfl
    have g1 : w1.cell? ⟨w.heap.size, 1, none⟩ = some (.int .i64 f1) := (blk_cell BK1.out 1).trans rfl
    have gs : w.heap.size < w1.heap.size := blk_lt BK1.out
    go_wp2_with fail
    go_cut [5, 6] (fun v5 v6 wc => ∃ b5 b6 : Nat, v5 = .pointer (some ⟨b5, 0, none⟩) ∧ v6 = .pointer (some ⟨b6, 0, none⟩) ∧ Aside0 (w.heap.size < b5 ∧ w.heap.size < b6 ∧ b5 ≠ b6) ∧
      Aside0 (wc.heap[w.heap.size]? = some (.cells #[.int .i64 f0, .int .i64 f1] 78 (0, 0))) ∧ Aside0 (wc.heap[b5]? = some (.cells #[.int .i64 f0, .int .i64 f1] 78 (0, 0))) ∧ Aside0 (wc.heap[b6]? = some (.cells #[.int .i64 f0, .int .i64 f1] 78 (0, 0))) ∧ Aside0 (Below w.heap.size w wc))
    case first =>
      go_region
      · go_wp2
        go_meet
        case rel => exact ⟨w1.heap.size, w1.heap.size + 1, rfl, rfl, ⟨by omega, by omega, by omega⟩, ⟨blk_drew (blk_alloc (blk_alloc BK1.out _) _)⟩, ⟨blk_drew (blk_alloc (blk_new w1 _) _)⟩, ⟨blk_drew (by simpa using blk_new (w1.alloc _) _)⟩, ⟨((HB1.out.alloc (by omega) _).alloc (by simp; omega) _).drew⟩⟩
      · go_wp2
        go_meet
        case rel => exact ⟨w1.heap.size + 1, w1.heap.size, rfl, rfl, ⟨by omega, by omega, by omega⟩, ⟨blk_drew (blk_alloc (blk_alloc BK1.out _) _)⟩, ⟨blk_drew (by simpa using blk_new (w1.alloc _) _)⟩, ⟨blk_drew (blk_alloc (blk_new w1 _) _)⟩, ⟨((HB1.out.alloc (by omega) _).alloc (by simp; omega) _).drew⟩⟩
    case rest =>
      obtain ⟨b5, b6, rfl, rfl, HN, K2, K5, K6, HB2⟩ := hcut
      clear g0 g1 gs
      have g0 : wc.cell? ⟨w.heap.size, 0, none⟩ = some (.int .i64 f0) := (blk_cell K2.out 0).trans rfl
      have g1 : wc.cell? ⟨w.heap.size, 1, none⟩ = some (.int .i64 f1) := (blk_cell K2.out 1).trans rfl
      go_wp2_with fail
      go_quiet (fail)
      go_wp2_with fail
      go_loopw [7, 8, 9, 10, 11] (fun v7 v8 v9 v10 v11 wr => ∃ (k : Nat) (id ep first fid fep : Int) (ps : List Int), v7 = .int .i64 id ∧ v8 = .int .i64 ep ∧ v9 = .int .i64 first ∧ v11 = .int .i64 k ∧ k ≤ os.length ∧
        Aside0 (LI os f0 f1 k id ep first fid fep ps) ∧ Aside0 (wr.heap[w.heap.size]? = some (.cells #[.int .i64 fid, .int .i64 fep] 78 (0, 0))) ∧ Aside0 (wr.heap[b5]? = some (.cells #[.int .i64 id, .int .i64 ep] 78 (0, 0))) ∧
        Aside0 (wr.heap[b6]? = some (.cells #[.int .i64 f0, .int .i64 f1] 78 (0, 0))) ∧ Aside0 (Kd.R (Kd.int .i64) 3 wr w.heap.size (fun k => w.heap.size < k ∧ k ≠ b5 ∧ k ≠ b6) v10 ps) ∧ Aside0 (Below w.heap.size w wr)) (fun _ _ _ _ v11 _ => os.length - (intOf v11).toNat)
      case atStart => exact ⟨0, f0, f1, 0, f0, f1, [], rfl, rfl, rfl, rfl, Nat.zero_le _, ⟨LI.start _ _ _⟩, ⟨blk_drewN K2.out _⟩, ⟨blk_drewN K5.out _⟩, ⟨blk_drewN K6.out _⟩, ⟨Kd.R_nil _ _ _ _ _⟩, ⟨pw_below_drewN HB2.out _⟩⟩
      case round =>
        obtain ⟨k, id, ep, first, fid, fep, ps, rfl, rfl, rfl, rfl, hk, HL, K2, K5, K6, HO, HB⟩ := hrel
        have hn : os.length ≤ 100 := by omega
        by_cases hlt : k < os.length
        · have hlt' : (k : Int) < (os.length : Int) := by omega
          have HRw := Kd.C_below HR.out HB.out
          obtain ⟨ad, rfl, h0, h1, h2, h3⟩ := at_T82 HRw k (by omega) hlt'
          have HRW := Aside0.mk HRw
          clear HRw
          simp only [Int.toNat_natCast] at h0 h1 h2 h3
          have hm0 := may_ref id ep (rd_T82 os k)
          have HM0 := Aside0.mk hm0
          clear hm0
          go_wp2_with fail
          refine (echelonref19_May.calls id ep _ _ _ _ _ _ HM0.out).mono ?_
          rintro e w2 ⟨rfl, hb⟩
          have HB2 := Aside0.mk (HB.out.trans (hb.mono HB.out.size))
          replace K2 := Aside0.mk (blk_below K2.out hb)
          replace K5 := Aside0.mk (blk_below K5.out hb)
          replace K6 := Aside0.mk (blk_below K6.out hb)
          replace HO := Aside0.mk (Kd.R_below HO.out hb)
          clear hb HB h0 h1 h2 h3 HRW
          obtain ⟨id', ep', HP⟩ : ∃ id' ep', Aside0 (passF [rd_T82 os k] id ep = (mayF id ep (rd_T82 os k), id', ep')) := by
            by_cases hm : mayF id ep (rd_T82 os k) = 0
            · exact ⟨(rd_T82 os k).f0, (rd_T82 os k).f1, ⟨by simp [passF, hm]⟩⟩
            · exact ⟨id, ep, ⟨by simp [passF, hm]⟩⟩
          have HM1 := Aside0.mk (may_at id ep (rd_T82 os k))
          clear HM0
          have HCl : ∀ W, Below w2.heap.size w2 W → W.cell? ⟨b5, 0, none⟩ = some (.int .i64 id) ∧ W.cell? ⟨b5, 1, none⟩ = some (.int .i64 ep) ∧ W.cell? (ad.add (k * 4)) = some (.int .i64 (rd_T82 os k).f0) ∧ W.cell? ⟨(ad.add (k * 4)).block, (ad.add (k * 4)).off + 1, none⟩ = some (.int .i64 (rd_T82 os k).f1) ∧
              W.cell? ⟨(ad.add (k * 4)).block, (ad.add (k * 4)).off + 2, none⟩ = some (.int .i64 (rd_T82 os k).f2) ∧ W.cell? ⟨(ad.add (k * 4)).block, (ad.add (k * 4)).off + 3, none⟩ = some (.int .i64 (rd_T82 os k).f3) := by
            intro W hW
            have k5 := blk_below K5.out hW
            obtain ⟨ad', e', h0, h1, h2, h3⟩ := at_T82 (Kd.C_below HR.out (HB2.out.trans (hW.mono HB2.out.size))) k (by omega) hlt'
            cases e'
            simp only [Int.toNat_natCast] at h0 h1 h2 h3
            exact ⟨(blk_cell k5 0).trans rfl, (blk_cell k5 1).trans rfl, h0, h1, h2, h3⟩
          have HCL := Aside0.mk HCl
          clear HCl
          go_wp2_with fail
          go_cut [58] (fun v58 wc => v58 = .bool false ∧ Aside0 (wc.heap[w.heap.size]? = some (.cells #[.int .i64 fid, .int .i64 fep] 78 (0, 0))) ∧ Aside0 (wc.heap[b5]? = some (.cells #[.int .i64 id', .int .i64 ep'] 78 (0, 0))) ∧
            Aside0 (wc.heap[b6]? = some (.cells #[.int .i64 f0, .int .i64 f1] 78 (0, 0))) ∧ Aside0 (Kd.R (Kd.int .i64) 3 wc w.heap.size (fun k => w.heap.size < k ∧ k ≠ b5 ∧ k ≠ b6) u10 ps) ∧ Aside0 (Below w.heap.size w wc))
          case first =>
            obtain ⟨c0, c1, c2, c3, c4, c5⟩ := HCL.out w2.drew ((Below.refl _ _).drew)
            go_region_with (first | (go_at_call 46; refine (order_Fence_May.calls 6 id ep _ _ _ _ _ _ HM1.out).mono ?_; rintro e w3 ⟨rfl, hb3⟩; have HB3 := Aside0.mk (((Below.refl w2.heap.size w2).drew).trans hb3); obtain ⟨d0, d1, d2, d3, d4, d5⟩ := HCL.out w3 HB3.out; clear hb3) | (go_at_call 47; refine (pass_one (rd_T82 os k) b5 _ id ep (mayF id ep (rd_T82 os k)) id' ep' _ HP.out (blk_alloc (blk_below K5.out HB3.out) _) (blk_new _ _)).mono ?_; rintro e w4 ⟨rfl, bk, fr⟩; have BK4 := Aside0.mk bk; have FR4 := Aside0.mk fr; clear bk fr d0 d1 d2 d3 d4 d5))
            all_goals
              go_wp2_with fail
              go_meet
              case rel => exact ⟨rfl, ⟨FR4.out.blk (blk_alloc (blk_below K2.out HB3.out) _) (by have := HN.out; omega)⟩, BK4, ⟨FR4.out.blk (blk_alloc (blk_below K6.out HB3.out) _) (by have := HN.out; omega)⟩, ⟨Kd.R_step (Kd.R_alloc (Kd.R_below HO.out HB3.out) _) (fun j hj hlt => FR4.out.block j hlt hj.2.1)⟩, ⟨((HB2.out.trans (HB3.out.mono HB2.out.size)).alloc (Nat.le_trans HB2.out.size HB3.out.size) _).trans (FR4.out.to_below (by have := HN.out; omega) (by have := HB2.out.size; have := HB3.out.size; simp; omega))⟩⟩
          case rest =>
            obtain ⟨rfl, K2', K5', K6', HO', HB'⟩ := hcut
            clear K2 K5 K6 HO HB2 HCL
            obtain ⟨ad', e', h0, h1, h2, h3⟩ := at_T82 (Kd.C_below HR.out HB'.out) k (by omega) hlt'
            cases e'
            simp only [Int.toNat_natCast] at h0 h1 h2 h3
            have p0 : wc.cell? ⟨b5, 0, none⟩ = some (.int .i64 id') := (blk_cell K5'.out 0).trans rfl
            have p1 : wc.cell? ⟨b5, 1, none⟩ = some (.int .i64 ep') := (blk_cell K5'.out 1).trans rfl
            have q0 : wc.cell? ⟨w.heap.size, 0, none⟩ = some (.int .i64 fid) := (blk_cell K2'.out 0).trans rfl
            have q1 : wc.cell? ⟨w.heap.size, 1, none⟩ = some (.int .i64 fep) := (blk_cell K2'.out 1).trans rfl
            by_cases hm : mayF id ep (rd_T82 os k) = 0
            · have hz : (mayF id ep (rd_T82 os k) == 0) = true := by simp [hm]
              have HMZ := Aside0.mk hm
              have hid : id' = (rd_T82 os k).f0 ∧ ep' = (rd_T82 os k).f1 := by
                have := HP.out
                simp [passF, hm] at this
                exact ⟨this.1.symm, this.2.symm⟩
              obtain ⟨rfl, rfl⟩ := hid
              clear hm
              obtain ⟨A', c', rfl, hl', hC'⟩ := Kd.R_reads HO'.out
              have HC' := Aside0.mk hC'
              have HPl := Aside0.mk HL.out.len
              have HPs := Aside0.mk HL.out.small
              clear hC' hl'
              go_wp2_with fail
              go_loopw [13] (fun v13 wr2 => ∃ j : Nat, v13 = .int .i64 j ∧ j ≤ ps.length ∧ Aside0 (Drawn0 wc wr2)) (fun v13 _ => ps.length - (intOf v13).toNat)
              case atStart => exact ⟨0, rfl, Nat.zero_le _, ⟨Drawn0.refl _⟩⟩
              case round =>
                obtain ⟨j, rfl, hj, ⟨⟨nd, rfl⟩⟩⟩ := hrel
                have hpn : ps.length ≤ 100 := by have := HPl.out; omega
                by_cases hjl : j < ps.length
                · have hjl' : (j : Int) < (ps.length : Int) := by omega
                  obtain ⟨ad2, e2, hx⟩ := Kd.at_int (HC'.out) j (by omega) hjl'
                  cases e2
                  simp only [Int.toNat_natCast] at hx
                  have hlt2 : rd ps j < (rd_T82 os k).f0 := by
                    have h1 := HPs.out (rd ps j) (by simp [rd, hjl])
                    have h2 := (may_zero HMZ.out).1
                    omega
                  have hd2 : decide ((rd_T82 os k).f0 ≤ rd ps j) = false := by simp; omega
                  go_wp2_with fail
                  go_quiet (fail)
                  go_wp2_with fail
                  go_roundw
                  case rel => exact ⟨j + 1, by go_num, by omega, ⟨Drawn0.mk ⟨_, rfl⟩⟩⟩
                  case measure => simp [intOf]; omega
                · have hf0 : (first == 0) = decide (first = 0) := rfl
                  go_wp2_with (first | ((with_reducible refine gate_builtin (b := .append) (xs := #[.tmp 77, .tmp 83]) rfl ?_); at_builtin; refine Kd.R_append (Kd.int .i64) (w0 := w) w.heap.size rfl (.tmp 77) (.tmp 83) 46 3 (.int .i64 0) 8 rfl Try.underlying46 info3 rfl (by decide) (by omega) (.slice A' ps.length c') ps ((rd_T82 os k).f0) [.int .i64 ((rd_T82 os k).f0)] (fun k => w.heap.size < k ∧ k ≠ b5 ∧ k ≠ b6) (fun _ => False) rfl rfl ?aP (fun _ hk => hk.elim) ?aF ?aO ?aB ?aS ?aL ?_; (case aP => exact rfl); (case aF => (intro q hq; have e5 := blk_lt K5'.out; have e6 := blk_lt K6'.out; have e2 := blk_lt K2'.out; simp at hq; exact ⟨by omega, by omega, by omega⟩)); (case aO => exact Kd.R_drewN HO'.out _); (case aB => exact pw_below_drewN HB'.out _); (case aS => exact HB'.out.size); (case aL => omega); intro v5 w5 ho hb hg hat; have HO5 := Aside0.mk ho; have HB5 := Aside0.mk hb; have K25 := Aside0.mk (blk_grown (blk_drewN K2'.out nd) hg (fun e => by have := HO'.out.1 _ e.symm; omega)); have K55 := Aside0.mk (blk_grown (blk_drewN K5'.out nd) hg (fun e => by have := HO'.out.1 _ e.symm; omega)); have K65 := Aside0.mk (blk_grown (blk_drewN K6'.out nd) hg (fun e => by have := HO'.out.1 _ e.symm; omega)); clear ho hb hg hat h0 h1 h2 h3 p0 p1 q0 q1))
                  obtain ⟨ad', e', h0, h1, h2, h3⟩ := at_T82 (Kd.C_below HR.out HB5.out) k (by omega) hlt'
                  cases e'
                  simp only [Int.toNat_natCast] at h0 h1 h2 h3
                  have p0 : w5.cell? ⟨b5, 0, none⟩ = some (.int .i64 (rd_T82 os k).f0) := (blk_cell K55.out 0).trans rfl
                  have p1 : w5.cell? ⟨b5, 1, none⟩ = some (.int .i64 (rd_T82 os k).f1) := (blk_cell K55.out 1).trans rfl
                  have q0 : w5.cell? ⟨w.heap.size, 0, none⟩ = some (.int .i64 fid) := (blk_cell K25.out 0).trans rfl
                  have q1 : w5.cell? ⟨w.heap.size, 1, none⟩ = some (.int .i64 fep) := (blk_cell K25.out 1).trans rfl
                  have r0 := blk_frozen K25.out 0
                  have r1 := blk_frozen K25.out 1
                  clear hf0
                  by_cases hf : first = 0
                  · have HLn := Aside0.mk (HL.out.go0 hlt HMZ.out hf)
                    have hfb : (first == 0) = true := by simp [hf]
                    have HFZ := Aside0.mk hf
                    clear hf
                    go_quiet (fail)
                    go_wp2_with fail
                    go_roundw
                    case rel => exact ⟨k + 1, _, _, 0, _, _, _, rfl, rfl, by rw [HFZ.out], by go_num, by omega, HLn, ⟨blk_set (blk_set (blk_drewN K25.out _) 0 _) 1 _⟩, ⟨blk_far (blk_far (blk_drewN K55.out _) (by have := HN.out; show b5 ≠ w.heap.size; omega) _) (by have := HN.out; show b5 ≠ w.heap.size; omega) _⟩, ⟨blk_far (blk_far (blk_drewN K65.out _) (by have := HN.out; show b6 ≠ w.heap.size; omega) _) (by have := HN.out; show b6 ≠ w.heap.size; omega) _⟩, ⟨Kd.R_far (Kd.R_far (Kd.R_drewN HO5.out _) (fun q hq => by have := hq.1; show q ≠ w.heap.size; omega) _) (fun q hq => by have := hq.1; show q ≠ w.heap.size; omega) _⟩, ⟨((pw_below_drewN HB5.out _).setCell (Nat.le_refl _) _).setCell (Nat.le_refl _) _⟩⟩
                    case measure => simp [intOf]; omega
                  · have HLn := Aside0.mk (HL.out.go1 hlt HMZ.out hf)
                    have hfb : (first == 0) = false := by simp [hf]
                    clear hf
                    go_quiet (fail)
                    go_wp2_with fail
                    go_roundw
                    case rel => exact ⟨k + 1, _, _, first, fid, fep, _, rfl, rfl, rfl, by go_num, by omega, HLn, ⟨blk_drewN K25.out _⟩, ⟨blk_drewN K55.out _⟩, ⟨blk_drewN K65.out _⟩, ⟨Kd.R_drewN HO5.out _⟩, ⟨pw_below_drewN HB5.out _⟩⟩
                    case measure => simp [intOf]; omega
            · have hz : (mayF id ep (rd_T82 os k) == 0) = false := by simp [hm]
              have HMZ := Aside0.mk hm
              have hid : id' = id ∧ ep' = ep := by
                have := HP.out
                simp [passF, hm] at this
                exact ⟨this.1.symm, this.2.symm⟩
              obtain ⟨rfl, rfl⟩ := hid
              clear hm
              by_cases hf : first = 0
              · have HLn := Aside0.mk (HL.out.no0 hlt HMZ.out hf)
                have hfb : (first == 0) = true := by simp [hf]
                clear hf
                go_wp2_with fail
                go_roundw
                case rel => exact ⟨k + 1, _, _, _, fid, fep, _, rfl, rfl, rfl, by go_num, by omega, HLn, K2', K5', K6', HO', HB'⟩
                case measure => simp [intOf]; omega
              · have HLn := Aside0.mk (HL.out.no1 hlt HMZ.out hf)
                have hfb : (first == 0) = false := by simp [hf]
                clear hf
                go_wp2_with fail
                go_roundw
                case rel => exact ⟨k + 1, _, _, first, fid, fep, _, rfl, rfl, rfl, by go_num, by omega, HLn, K2', K5', K6', HO', HB'⟩
                case measure => simp [intOf]; omega
        · have hP := Aside0.mk (HL.out.last hlt)
          go_wp2_with fail
          refine (pass_calls A c os b6 f0 f1 _ (Kd.C_below HR.out HB.out) HC.out K6.out ?_ (by omega)).mono ?_
          · intro a ha hp
            obtain ⟨ad', e', h0, _⟩ := at_T82 HR.out 0 (by omega) (by omega)
            rw [ha] at e'
            cases e'
            have := cell_lt h0
            rw [add_block] at this
            have := HN.out
            omega
          rintro e w2 ⟨rfl, bk, fr⟩
          rw [hP.out] at bk
          have K22 := Aside0.mk (fr.blk K2.out (by have := HN.out; omega))
          have K62 := Aside0.mk bk
          have HB2 := Aside0.mk (HB.out.trans (fr.to_below (by have := HN.out; omega) HB.out.size))
          clear bk fr
          have q0 : w2.cell? ⟨w.heap.size, 0, none⟩ = some (.int .i64 fid) := (blk_cell K22.out 0).trans rfl
          have q1 : w2.cell? ⟨w.heap.size, 1, none⟩ = some (.int .i64 fep) := (blk_cell K22.out 1).trans rfl
          have p0 : w2.cell? ⟨b6, 0, none⟩ = some (.int .i64 fid) := (blk_cell K62.out 0).trans rfl
          have p1 : w2.cell? ⟨b6, 1, none⟩ = some (.int .i64 fep) := (blk_cell K62.out 1).trans rfl
          have hP1 : (passF os f0 f1).1 = first := by rw [hP.out]
          go_wp2_with fail
          go_ret
          exact ⟨by simp, HB2.out⟩

end Go.Proofs.Ytcdlccnpbhjgkaa.OfA
