/- SessionApart, walked. -/
import Derived.Test.YtnkpleggmiamdaaSeE
import Derived.Deep.DeepCutAuto
namespace Go.Proofs.Ytnkpleggmiamdaa.Se
open Go.RowKit Go.Maps Go.Proofs.YtnkpleggmiamdaaW.PrintWords Go.Proofs.YtnkpleggmiamdaaW.PrintLast Go.Proofs.YtnkpleggmiamdaaW.PrintMore
open Go.Proofs.Ytnkpleggmiamdaa.PSessionOnce Go.Proofs.Ytnkpleggmiamdaa.Mp
open Go.Proofs.Ytnkpleggmiamdaa.He (mdw mdw_bd mdw_one)
set_option linter.unusedVariables false
set_option linter.unusedSimpArgs false

/-! #### struct type 34 -/
structure S34 where
  f0 : Int
  f1 : Int
  f2 : Int
  f3 : (List Int)
def z34 : S34 := ⟨(0 : Int), (0 : Int), (0 : Int), ([] : List Int)⟩
def k34 : Kd S34 := Kd.iso (Kd.pair (Kd.int .i64) (Kd.pair (Kd.int .i64) (Kd.pair (Kd.int .i64) (Kd.slice 5 (Kd.int .u8))))) (fun x : S34 => (x.f0, x.f1, x.f2, x.f3))
theorem k34_open {w : World} {x : S34} {cs : List Value} (h : k34.K w x cs) : ∃ A3 c3, cs = [.int .i64 x.f0, .int .i64 x.f1, .int .i64 x.f2, .slice A3 x.f3.length c3] ∧ x.f3.length ≤ c3 ∧ (Kd.int .u8).C w A3 x.f3.length x.f3 := by
  obtain ⟨_, _, rfl, rfl, ⟨_, _, rfl, rfl, ⟨_, _, rfl, rfl, ⟨A3, c3, rfl, l3, g3⟩⟩⟩⟩ := h
  exact ⟨A3, c3, rfl, l3, g3⟩
theorem k34_openM {w : World} {base : Nat} {ok : Nat → Prop} {x : S34} {cs : List Value} (h : k34.M w base ok x cs) : ∃ v3, cs = [.int .i64 x.f0, .int .i64 x.f1, .int .i64 x.f2, v3] ∧ (Kd.int .u8).R 5 w base ok v3 x.f3 := by
  obtain ⟨_, _, rfl, rfl, ⟨_, _, rfl, rfl, ⟨_, _, rfl, rfl, ⟨v3, rfl, g3⟩⟩⟩⟩ := h
  exact ⟨v3, rfl, g3⟩
theorem k34_mk (w : World) (x : S34) {A3 : Option Addr} {c3 : Nat} (l3 : x.f3.length ≤ c3) (g3 : (Kd.int .u8).C w A3 x.f3.length x.f3) : k34.K w x [.int .i64 x.f0, .int .i64 x.f1, .int .i64 x.f2, .slice A3 x.f3.length c3] := ⟨[.int .i64 x.f0], [.int .i64 x.f1, .int .i64 x.f2, .slice A3 x.f3.length c3], rfl, rfl, ⟨[.int .i64 x.f1], [.int .i64 x.f2, .slice A3 x.f3.length c3], rfl, rfl, ⟨[.int .i64 x.f2], [.slice A3 x.f3.length c3], rfl, rfl, ⟨A3, c3, rfl, l3, g3⟩⟩⟩⟩
theorem k34_mkM (w : World) (base : Nat) (ok : Nat → Prop) (x : S34) {v3 : Value} (g3 : (Kd.int .u8).R 5 w base ok v3 x.f3) : k34.M w base ok x [.int .i64 x.f0, .int .i64 x.f1, .int .i64 x.f2, v3] := ⟨[.int .i64 x.f0], [.int .i64 x.f1, .int .i64 x.f2, v3], rfl, rfl, ⟨[.int .i64 x.f1], [.int .i64 x.f2, v3], rfl, rfl, ⟨[.int .i64 x.f2], [v3], rfl, rfl, ⟨v3, rfl, g3⟩⟩⟩⟩
def rd_T34 (xs : List S34) (i : Int) : S34 := xs.getD i.toNat z34
theorem at_T34 {w : World} {A : Option Addr} {n : Nat} {xs : List S34} (h : Kd.C k34 w A n xs) (i : Int) (h0 : 0 ≤ i) (h1 : i < n) : ∃ ad A3 c3, A = some ad ∧ w.cell? (ad.add (i.toNat * 4)) = some (.int .i64 (rd_T34 xs i).f0) ∧ w.cell? ⟨(ad.add (i.toNat * 4)).block, (ad.add (i.toNat * 4)).off + 1, none⟩ = some (.int .i64 (rd_T34 xs i).f1) ∧ w.cell? ⟨(ad.add (i.toNat * 4)).block, (ad.add (i.toNat * 4)).off + 2, none⟩ = some (.int .i64 (rd_T34 xs i).f2) ∧ w.cell? ⟨(ad.add (i.toNat * 4)).block, (ad.add (i.toNat * 4)).off + 3, none⟩ = some (.slice A3 (rd_T34 xs i).f3.length c3) ∧ (rd_T34 xs i).f3.length ≤ c3 ∧ (Kd.int .u8).C w A3 (rd_T34 xs i).f3.length (rd_T34 xs i).f3 := by
  obtain ⟨ad, c, e, _, hK, hc0⟩ := Kd.C_get h z34 i h0 h1
  have hc : ∀ j u, c[j]? = some u → w.cell? (ad.add (i.toNat * 4 + j)) = some u := hc0
  obtain ⟨A3, c3, rfl, l3, g3⟩ := k34_open hK
  exact ⟨ad, A3, c3, e, hc 0 _ rfl, by rw [← add_field _ _ 1 (by omega)]; exact hc 1 _ rfl, by rw [← add_field _ _ 2 (by omega)]; exact hc 2 _ rfl, by rw [← add_field _ _ 3 (by omega)]; exact hc 3 _ rfl, l3, g3⟩

theorem new_tab2 (w : World) : Calls Try.prog 15 #[] w fun e w' => e = .returned (.pointer (some ⟨w.heap.size + 1, 0, none⟩)) ∧ TableIs w' (fun _ => False) (w.heap.size + 1) w.heap.size [] ∧ Below w.heap.size w w' ∧ w'.heap.size = w.heap.size + 2 := by
  refine (new_calls w).mono ?_
  rintro e w2 ⟨rfl, rfl⟩
  refine ⟨rfl, ⟨[], rfl, ?_, (MapIs.made w).alloc _, by simp⟩, ((Below.refl _ _).alloc (Nat.le_refl _) _).alloc (by simp) _, by simp⟩
  have := blk_new (w.alloc (.map #[] 0)) (.cells #[.map (some w.heap.size)] 98)
  rw [show (w.alloc (.map #[] 0)).heap.size = w.heap.size + 1 from by simp] at this
  exact this
theorem drop_one (ok : Nat → Prop) (p bm : Nat) (V : View) (c : Int) (w : World) (h : TableIs w ok p bm V) (hob : ¬ ok bm) :
    Calls Try.prog 19 #[.pointer (some ⟨p, 0, none⟩), .slice (some ⟨w.heap.size, 0, none⟩) 1 1] (w.alloc (.cells #[.int .i64 c] 3)) fun e w' => e = .returned (.tuple #[]) ∧ TableIs w' ok p bm (adel c V) ∧ FrS (fun k => k = bm) w w' := by
  refine (drop_calls ok p bm w.heap.size V c _ (h.below ((Below.refl _ _).alloc (Nat.le_refl _) _)) (blk_new _ _) hob).mono ?_
  rintro e w' ⟨rfl, hT, hF⟩
  exact ⟨rfl, hT, (FrS.of_below ((Below.refl _ _).alloc (Nat.le_refl _) _)).trans hF⟩

theorem cell_on {w w1 : World} {q : Addr} {v : Value} (h : w.cell? q = some v) (hb : Below w.heap.size w w1) : w1.cell? q = some v := (hb.cell (cell_lt h)).trans h

/-- An answer, its bytes new since block B. -/
structure Ans (B : Nat) (w : World) (v : Value) (bs : List Int) : Prop where
  ex : ∃ A c, v = .slice A bs.length c ∧ Bs w A c bs ∧ ∀ k, AtB A k → B ≤ k
theorem Answer.toAns {w0 w : World} {v : Value} {bs : List Int} {A : Option Addr} (h : Answer w0 w v bs A) {B : Nat} (hB : B ≤ w0.heap.size) : Ans B w v bs := by
  obtain ⟨c, rfl, hb⟩ := h.ex
  exact ⟨A, c, rfl, hb, fun k hk => by have := (h.new k hk).1; omega⟩
theorem Ans.frS {B : Nat} {S : Nat → Prop} {w w1 : World} {v : Value} {bs : List Int} (h : Ans B w v bs) (hf : FrS S w w1) (hS : ∀ k, S k → k < B) : Ans B w1 v bs := by
  obtain ⟨A, c, rfl, hb, hn⟩ := h
  exact ⟨A, c, rfl, hb.frS hf (fun b hb' hs => by have := hn b hb'; have := hS b hs; omega), hn⟩
theorem Ans.str {B : Nat} {w : World} {v : Value} {bs : List Int} (h : Ans B w v bs) : (convert 26 9 v).run Try.prog w = .ok (.string (strOfNums bs)) w := by
  obtain ⟨A, c, rfl, hb, _⟩ := h.ex
  exact run_str Try.underlying26 Try.underlying5 Try.underlying9 hb.row c

set_option maxHeartbeats 2000000 in
set_option maxRecDepth 100000 in
theorem apart_calls (A : Option Addr) (c : Nat) (acts : List S34) (a1 : Int) (w : World) (hr : Kd.C k34 w A acts.length acts) (hc : acts.length ≤ c) (w1 : (Lit.int .i64 a1).wf = true) :
    Calls Try.prog 4 #[.slice A acts.length c, .int .i64 a1] w fun e w' => e = .returned (.bool true) ∧ Below w.heap.size w w' := by
  have HR := Aside0.mk hr
  have HC := Aside0.mk hc
  clear hr hc
  by_cases hlen : (60 : Int) < acts.length
  · go_enter Try.func4, Try.ntmps4
    go_wp2_with fail
    refine (awake_calls _).mono ?_
    rintro e w1 ⟨rfl, hb⟩
    have HB1 := Aside0.mk hb
    clear hb
    go_wp2_with fail
    refine (awake_calls _).mono ?_
    rintro e w2 ⟨rfl, hb⟩
    have HB2 := Aside0.mk (HB1.out.trans (hb.mono HB1.out.size))
    clear hb
    go_wp2_with fail
    go_ret
    exact ⟨rfl, HB2.out⟩
  · obtain ⟨me, e0, b1, b2⟩ : ∃ me, (wrap64 (a1.tmod 4 + 4)).tmod 4 = me ∧ 0 ≤ me ∧ me < 4 :=
      ⟨_, rfl, mdw_bd a1 4 (by omega) (by omega)⟩
    go_enter Try.func4, Try.ntmps4
    go_wp2_with fail
    refine (awake_calls _).mono ?_
    rintro e w1 ⟨rfl, hb⟩
    have HB1 := Aside0.mk hb
    clear hb
    go_wp2_with fail
    refine (new_tab2 _).mono ?_
    rintro e w2 ⟨rfl, hT, hB, hz⟩
    have HB2 := Aside0.mk (HB1.out.trans (hB.mono HB1.out.size))
    have HT2 := Aside0.mk hT
    have HZ := Aside0.mk (show w.heap.size ≤ w1.heap.size ∧ w2.heap.size = w1.heap.size + 2 from ⟨HB1.out.size, hz⟩)
    clear hT hB hz HB1
    go_wp2_with fail
    refine (new_tab2 _).mono ?_
    rintro e w3 ⟨rfl, hT, hB, hz⟩
    have H2 : Aside0 (Two w w3 (w1.heap.size + 1) w1.heap.size (w2.heap.size + 1) w2.heap.size [] []) := ⟨by
      have z := HZ.out
      exact ⟨(HT2.out.below hB).weak (fun k hk _ => hk.elim), hT.weak (fun k hk _ => hk.elim), by omega, by omega, by omega, HB2.out.trans (hB.mono HB2.out.size)⟩⟩
    clear hT hB hz HB2 HT2
    go_wp2_with fail
    clear e0
    go_loopg [8] acts.length (fun g v8 wr => ∃ (k : Nat) (V1 V2 : View), v8 = .int .i64 k ∧ k + g = acts.length ∧ Aside0 (Two w wr (w1.heap.size + 1) w1.heap.size (w2.heap.size + 1) w2.heap.size V1 V2) ∧ Aside0 (Apart me V1 V2))
    case atStart => exact ⟨0, [], [], rfl, by omega, H2, ⟨rfl, by simp, .inl rfl⟩⟩
    case round =>
      obtain ⟨k, V1, V2, rfl, hk, HM, HP⟩ := hrel
      by_cases hlt : k < acts.length
      · have hlt' : (k : Int) < (acts.length : Int) := by omega
        obtain ⟨ad, A3, c3, rfl, h0, h1, h2, h3, l3, g3⟩ := at_T34 HR.out k (by omega) hlt'
        simp only [Int.toNat_natCast] at h0 h1 h2 h3
        replace h0 := cell_on h0 HM.out.below
        replace h1 := cell_on h1 HM.out.below
        replace h2 := cell_on h2 HM.out.below
        replace h3 := cell_on h3 HM.out.below
        generalize rd_T34 acts k = x at h0 h1 h2 h3 l3 g3
        obtain ⟨f0, f1, f2, f3⟩ := x
        simp only at h0 h1 h2 h3 l3 g3
        have HG := Aside0.mk g3
        clear l3 g3
        by_cases h500 : (500 : Int) < f3.length
        · go_wp2_with fail
          go_ret
          exact ⟨rfl, HM.out.below.trans (((Below.refl _ _).alloc (Nat.le_refl _) _).mono HM.out.below.size)⟩
        · obtain ⟨cl, e1, b3, b4⟩ : ∃ cl, (wrap64 (f1.tmod 4 + 4)).tmod 4 = cl ∧ 0 ≤ cl ∧ cl < 4 :=
            ⟨_, rfl, mdw_bd f1 4 (by omega) (by omega)⟩
          by_cases hf0 : f0 = 1
          · subst hf0
            by_cases hcm : cl = me
            · subst hcm
              go_wp2_with fail
              generalize hW : wr.alloc (.cells #[.int .i64 1, .int .i64 f1, .int .i64 f2, .slice A3 f3.length c3] 34) = wa
              have HM1 := Aside0.mk (HM.out.next (show Below wr.heap.size wr wa from by rw [← hW]; exact (Below.refl _ _).alloc (Nat.le_refl _) _))
              have hz : wa.heap.size = wr.heap.size + 1 := by rw [← hW]; simp
              clear hW
              rw [← hz]
              refine (drop_one _ _ _ V1 cl wa HM1.out.t1 (fun h => h.1 rfl)).mono ?_
              rintro e w4 ⟨rfl, hT, hF⟩
              have HM2 := Aside0.mk (HM1.out.on1 hF hT (fun k h _ => h))
              clear hT hF hz HM1 HM h0 h1 h2 h3
              go_wp2_with fail
              refine (drop_one _ _ _ V2 cl w4 HM2.out.t2 (fun h => h.2 rfl)).mono ?_
              rintro e w5 ⟨rfl, hT, hF⟩
              have HM3 := Aside0.mk (HM2.out.on2 hF hT (fun k h _ => h))
              clear hT hF HM2
              go_wp2_with fail
              go_roundg (gk - 1)
              case measure => omega
              case rel => exact ⟨k + 1, _, _, by go_num, by omega, HM3, ⟨HP.out.drop_me⟩⟩
            · have hcb : (cl == me) = false := by simpa using hcm
              have HNE := Aside0.mk hcm
              clear hcm
              go_wp2_with fail
              generalize hW : wr.alloc (.cells #[.int .i64 1, .int .i64 f1, .int .i64 f2, .slice A3 f3.length c3] 34) = wa
              have HM1 := Aside0.mk (HM.out.next (show Below wr.heap.size wr wa from by rw [← hW]; exact (Below.refl _ _).alloc (Nat.le_refl _) _))
              have hz : wa.heap.size = wr.heap.size + 1 := by rw [← hW]; simp
              clear hW
              rw [← hz]
              refine (drop_one _ _ _ V1 cl wa HM1.out.t1 (fun h => h.1 rfl)).mono ?_
              rintro e w4 ⟨rfl, hT, hF⟩
              have HM2 := Aside0.mk (HM1.out.on1 hF hT (fun k h _ => h))
              clear hT hF hz HM1 HM h0 h1 h2 h3
              go_wp2_with fail
              go_roundg (gk - 1)
              case measure => omega
              case rel => exact ⟨k + 1, _, _, by go_num, by omega, HM2, ⟨HP.out.drop_other HNE.out⟩⟩
          · have hfb : (f0 == 1) = false := by simpa using hf0
            clear hf0
            have ho : (Lit.int .i64 cl).wf = true := by simp [Lit.wf, IntKind.min, IntKind.max, IntKind.signed, IntKind.bits]; omega
            go_wp2_with fail
            have K9 := blk_new wr (.cells #[.int .i64 f0, .int .i64 f1, .int .i64 f2, .slice A3 f3.length c3] 34)
            generalize hW : wr.alloc (.cells #[.int .i64 f0, .int .i64 f1, .int .i64 f2, .slice A3 f3.length c3] 34) = wa at K9 ⊢
            have hBa : Below wr.heap.size wr wa := by rw [← hW]; exact (Below.refl _ _).alloc (Nat.le_refl _) _
            have HM1 := Aside0.mk (HM.out.next hBa)
            generalize wr.heap.size = x9 at K9 ⊢
            have HK9 := Aside0.mk K9
            have q0 : wa.cell? ⟨x9, 0, none⟩ = some (.int .i64 f0) := (blk_cell K9 0).trans rfl
            have q1 : wa.cell? ⟨x9, 1, none⟩ = some (.int .i64 f1) := (blk_cell K9 1).trans rfl
            have q2 : wa.cell? ⟨x9, 2, none⟩ = some (.int .i64 f2) := (blk_cell K9 2).trans rfl
            have q3 : wa.cell? ⟨x9, 3, none⟩ = some (.slice A3 f3.length c3) := (blk_cell K9 3).trans rfl
            have hcv : (convert 26 9 (.slice A3 f3.length c3)).run Try.prog wa.drew = .ok (.string (strOfNums f3)) wa.drew := run_str Try.underlying26 Try.underlying5 Try.underlying9 (Kd.C_below HG.out HM1.out.below.drew) c3
            have r2 : (wa.alloc (.cells #[.string (strOfNums f3)] 9)).cell? ⟨x9, 2, none⟩ = some (.int .i64 f2) := (blk_cell (blk_alloc K9 _) 2).trans rfl
            have HL := Aside0.mk (show (strOfNums f3).size ≤ 140737488355328 by rw [strOfNums_size]; omega)
            clear hW hBa HM K9 h0 h1 h2 h3 wr
            go_cut [11, 12] (fun v11 v12 wc => v12 = .int .i64 (codeF V1 cl f2) ∧ Aside0 (Ans wa.heap.size wc v11 (ansF V1 cl f2 (bytesOf (strOfNums f3)))) ∧ Aside0 (Two w wc (w1.heap.size + 1) w1.heap.size (w2.heap.size + 1) w2.heap.size (onceF V1 cl f2 (bytesOf (strOfNums f3))) V2) ∧ Aside0 (FrS (fun k => k = w1.heap.size) wa wc))
            case first =>
              go_region_with (first | (go_at_call 20; refine (answers_calls (strOfNums f3) _).mono ?_; rintro e w5 ⟨rfl, rfl⟩) | (go_at_call 16; refine (once_all _ _ _ V1 cl f2 wa.heap.size (strOfNums f3) _ (HM1.out.next ((Below.refl wa.heap.size wa).drew.alloc (Nat.le_refl _) (.cells #[.string (strOfNums f3)] 9))).t1 ho (fun h => h.1 rfl) (blk_new wa.drew _) HL.out).mono ?_; rintro e w6 ⟨v6, A6, rfl, hA, hT, hF⟩; have HA6 := Aside0.mk hA; have HT6 := Aside0.mk hT; have HF6 := Aside0.mk hF; clear hA hT hF))
              all_goals
                go_wp2_with fail
                go_meet
                case rel =>
                  have B := (Below.refl wa.heap.size wa).drew.alloc (Nat.le_refl _) (.cells #[.string (strOfNums f3)] 9)
                  have z : (wa.drew.alloc (.cells #[.string (strOfNums f3)] 9)).heap.size = wa.heap.size + 1 := by simp
                  have z1 := HM1.out.lt
                  exact ⟨rfl, ⟨HA6.out.toAns (by omega)⟩, ⟨(HM1.out.next B).on1 HF6.out HT6.out (fun k hk _ => by omega)⟩, ⟨(FrS.of_below B).trans HF6.out⟩⟩
            case rest =>
              obtain ⟨rfl, HA, HM2, HF2⟩ := hcut
              by_cases hcm : cl = me
              · subst hcm
                have hx := HM1.out.t1.ne_bm HK9.out
                have K9 := HF2.out.blk HK9.out hx
                have HE := Aside0.mk (HP.out.once_me (s := f2) (bytesOf (strOfNums f3)))
                have HZA := Aside0.mk (show w1.heap.size < wa.heap.size ∧ w2.heap.size < wa.heap.size ∧ wa.heap.size ≤ wc.heap.size from ⟨HM1.out.lt.1, HM1.out.lt.2, HF2.out.size⟩)
                replace HA := Aside0.mk (HE.out.2.2 ▸ HA.out)
                rw [HE.out.2.1]
                clear q0 q1 q2 q3 r2 hcv HM1 HK9 HF2 hx
                have q0 : wc.cell? ⟨x9, 0, none⟩ = some (.int .i64 f0) := (blk_cell K9 0).trans rfl
                have q1 : wc.cell? ⟨x9, 1, none⟩ = some (.int .i64 f1) := (blk_cell K9 1).trans rfl
                have q2 : wc.cell? ⟨x9, 2, none⟩ = some (.int .i64 f2) := (blk_cell K9 2).trans rfl
                have q3 : wc.cell? ⟨x9, 3, none⟩ = some (.slice A3 f3.length c3) := (blk_cell K9 3).trans rfl
                have hcv : (convert 26 9 (.slice A3 f3.length c3)).run Try.prog wc.drew = .ok (.string (strOfNums f3)) wc.drew := run_str Try.underlying26 Try.underlying5 Try.underlying9 (Kd.C_below HG.out HM2.out.below.drew) c3
                have r2 : (wc.alloc (.cells #[.string (strOfNums f3)] 9)).cell? ⟨x9, 2, none⟩ = some (.int .i64 f2) := (blk_cell (blk_alloc K9 _) 2).trans rfl
                clear K9
                generalize hco : codeF V2 cl f2 = co
                have HCO := Aside0.mk hco
                clear hco
                generalize u11 = x11 at HA ⊢
                go_wp2_with fail
                go_cut [13, 14] (fun v13 v14 wx => v14 = .int .i64 co ∧ Aside0 (Ans wc.heap.size wx v13 (ansF V2 cl f2 (bytesOf (strOfNums f3)))) ∧ Aside0 (Ans wa.heap.size wx x11 (ansF V2 cl f2 (bytesOf (strOfNums f3)))) ∧ Aside0 (Two w wx (w1.heap.size + 1) w1.heap.size (w2.heap.size + 1) w2.heap.size (onceF V1 cl f2 (bytesOf (strOfNums f3))) (onceF V2 cl f2 (bytesOf (strOfNums f3)))))
                case first =>
                  go_region_with (first | (go_at_call 20; refine (answers_calls (strOfNums f3) _).mono ?_; rintro e w5 ⟨rfl, rfl⟩) | (go_at_call 16; refine (once_all _ _ _ V2 cl f2 wc.heap.size (strOfNums f3) _ (HM2.out.next ((Below.refl wc.heap.size wc).drew.alloc (Nat.le_refl _) (.cells #[.string (strOfNums f3)] 9))).t2 ho (fun h => h.2 rfl) (blk_new wc.drew _) HL.out).mono ?_; rintro e w6 ⟨v6, A6, rfl, hA, hT, hF⟩; rw [HCO.out]; have HA6 := Aside0.mk hA; have HT6 := Aside0.mk hT; have HF6 := Aside0.mk hF; clear hA hT hF))
                  all_goals
                    go_wp2_with fail
                    go_meet
                    case rel =>
                      have B := (Below.refl wc.heap.size wc).drew.alloc (Nat.le_refl _) (.cells #[.string (strOfNums f3)] 9)
                      have z : (wc.drew.alloc (.cells #[.string (strOfNums f3)] 9)).heap.size = wc.heap.size + 1 := by simp
                      have z1 := HZA.out
                      have z2 := HM2.out.lt
                      exact ⟨rfl, ⟨HA6.out.toAns (by omega)⟩, ⟨(HA.out.frS (FrS.of_below (S := fun _ => False) B) (fun k h => h.elim)).frS HF6.out (fun k e => by omega)⟩, ⟨(HM2.out.next B).on2 HF6.out HT6.out (fun k hk _ => by omega)⟩⟩
                case rest =>
                  obtain ⟨rfl, HA2, HA3, HM3⟩ := hcut
                  have hcv1 := HA3.out.str
                  have hcv2 := HA2.out.str
                  generalize strOfNums (ansF V2 cl f2 (bytesOf (strOfNums f3))) = str at hcv1 hcv2
                  clear q0 q1 q2 q3 r2 hcv
                  go_wp2_with fail
                  go_roundg (gk - 1)
                  case measure => omega
                  case rel => exact ⟨k + 1, _, _, by go_num, by omega, HM3, ⟨HE.out.1⟩⟩
              · have hcb : (cl == me) = false := by simpa using hcm
                have HNE := Aside0.mk hcm
                clear hcm
                go_wp2_with fail
                go_roundg (gk - 1)
                case measure => omega
                case rel => exact ⟨k + 1, _, _, by go_num, by omega, HM2, ⟨HP.out.once_other HNE.out _⟩⟩
      · have s0 := (HP.out.same)
        have hle := HP.out.len
        have HS := Aside0.mk s0
        go_wp2_with fail
        refine (last_calls _ _ _ V1 me wr HM.out.t1).mono ?_
        rintro e w4 ⟨v4, A4, rfl, hA, hB⟩
        rw [HS.out] at hA ⊢
        have HA4 := Aside0.mk hA
        have HB4 := Aside0.mk hB
        have HM4 := Aside0.mk (HM.out.next hB)
        clear hA hB HM s0
        go_wp2_with fail
        refine (last_calls _ _ _ V2 me w4 HM4.out.t2).mono ?_
        rintro e w5 ⟨v5, A5, rfl, hA, hB⟩
        have HM5 := Aside0.mk (HM4.out.next hB)
        have hcv4 : (convert 26 9 v4).run Try.prog w5 = .ok (.string (strOfNums (lastV V2 me).2)) w5 := HA4.out.str (fun k _ hk => hB.block k hk)
        have hcv5 : (convert 26 9 v5).run Try.prog w5 = .ok (.string (strOfNums (lastV V2 me).2)) w5 := hA.str (fun k _ hk => rfl)
        generalize strOfNums (lastV V2 me).2 = str at hcv4 hcv5
        generalize (lastV V2 me).1 = lv
        clear hA hB HA4 HB4 HM4 HS
        go_wp2_with (go_at_call 22; refine (len_calls _ _ _ V2 _ HM5.out.t2).mono ?_; rintro e w' ⟨rfl, rfl⟩)
        go_ret
        exact ⟨by rw [decide_eq_true (by omega)]; rfl, HM5.out.below⟩

end Go.Proofs.Ytnkpleggmiamdaa.Se
