/- members: Right, walked. -/
import Derived.Test.YtkeadpichlgagaaMeD
namespace Go.Proofs.Ytkeadpichlgagaa.Me
open Go.RowKit Go.Lib Go.Sort Go.Shelf Go.Proofs.YtkeadpichlgagaaW.PrintWords Go.Proofs.YtkeadpichlgagaaW.PrintLast Go.Proofs.YtkeadpichlgagaaW.PrintMore
open Go.Proofs.Ytkeadpichlgagaa.PMembersNext Go.Proofs.Ytkeadpichlgagaa.Mp
set_option linter.unusedVariables false
set_option linter.unusedSimpArgs false
set_option linter.unnecessarySimpa false

theorem any_take {α : Type} (p : α → Bool) (xs : List α) (i : Nat) (h : i < xs.length) : (xs.take (i + 1)).any p = ((xs.take i).any p || p xs[i]) := by
  rw [List.take_succ_eq_append_getElem h, List.any_append]
  simp
/-- A closure over one variable, asked of the numbers of a list. -/
structure Asks (g : Nat) (b : Nat) (p : Int → Bool) (xs : List Int) (w : World) : Prop where
  cf : ∀ (args : Array Value) (w : World), (callFunc g args).run Try.prog w = .ok (.enter g args) w
  at' : ∀ e ∈ xs, ∀ W : World, Below w.heap.size w W → Calls Try.prog g #[.int .i64 e, .pointer (some ⟨b, 0, none⟩)] W fun e' w' => e' = .returned (.bool (p e)) ∧ Below W.heap.size W w'
set_option maxRecDepth 100000 in
theorem idx_calls (g b : Nat) (p : Int → Bool) (A : Option Addr) (c : Nat) (xs : List Int) (w : World) (hC : (Kd.int .i64).C w A xs.length xs) (hp : Asks g b p xs w) :
    Calls Try.prog 110 #[.slice A xs.length c, .func (.func g) #[] #[.pointer (some ⟨b, 0, none⟩)]] w fun e w' => ∃ r : Int, e = .returned (.int .i64 r) ∧ (0 ≤ r ↔ xs.any p = true) ∧ Below w.heap.size w w' := by
  have HC := Aside0.mk hC
  have HP := Aside0.mk hp
  have hmax := hC.2.1
  have hcf := hp.cf
  clear hC hp
  go_enter Try.func110, Try.ntmps110
  go_wp2_with fail
  go_loopg [5, 8] xs.length (fun kq v5 v8 wr => ∃ i : Nat, v8 = .int .i64 i ∧ i + kq = xs.length ∧ Aside0 ((xs.take i).any p = false) ∧ Aside0 (Below w.heap.size w wr))
  case atStart => exact ⟨0, rfl, by omega, ⟨rfl⟩, ⟨Below.refl _ _⟩⟩
  case round =>
    obtain ⟨i, rfl, hi, HF, HBl⟩ := hrel
    by_cases hlt : i < xs.length
    · have hlt' : (i : Int) < (xs.length : Int) := by omega
      obtain ⟨pd, rfl, y0⟩ := Kd.at_int (Kd.C_below HC.out HBl.out) i (by omega) hlt'
      simp only [Int.toNat_natCast] at y0
      have er := rd_at xs hlt
      rw [er] at y0
      have HCL := Aside0.mk (HP.out.at' xs[i] (List.getElem_mem hlt) wr HBl.out)
      have HT := Aside0.mk (any_take p xs i hlt)
      have HM : Aside0 (p xs[i] = true → xs.any p = true) := ⟨fun h => List.any_eq_true.2 ⟨_, List.getElem_mem hlt, h⟩⟩
      clear er
      generalize xs[i] = x at y0 HCL HT HM
      go_wp2_with fail
      refine HCL.out.mono ?_
      rintro e w2 ⟨rfl, hB⟩
      have HB2 := Aside0.mk (HBl.out.trans (hB.mono HBl.out.size))
      clear hB y0 HCL
      generalize p x = px at HT HM ⊢
      cases px with
      | true =>
        go_wp2_with fail
        go_ret
        exact ⟨_, rfl, ⟨fun _ => HM.out (by first | rfl | trivial), fun _ => by omega⟩, HB2.out⟩
      | false =>
        have HT2 : Aside0 ((xs.take (i + 1)).any p = false) := ⟨by rw [HT.out, HF.out]; rfl⟩
        go_wp2_with fail
        go_roundg (gk - 1)
        case measure => omega
        case rel => exact ⟨i + 1, by go_num, by omega, HT2, HB2⟩
    · have HT2 : Aside0 (xs.any p = false) := ⟨by
        have hf := HF.out
        rwa [List.take_of_length_le (by omega)] at hf⟩
      go_wp2_with fail
      go_ret
      exact ⟨-1, rfl, ⟨fun h => by omega, fun h => by rw [HT2.out] at h; cases h⟩, HBl.out⟩
set_option maxRecDepth 100000 in
theorem any_calls (g b : Nat) (p : Int → Bool) (A : Option Addr) (c : Nat) (xs : List Int) (w : World) (hC : (Kd.int .i64).C w A xs.length xs) (hp : Asks g b p xs w) :
    Calls Try.prog 73 #[.slice A xs.length c, .func (.func g) #[] #[.pointer (some ⟨b, 0, none⟩)]] w fun e w' => e = .returned (.bool (xs.any p)) ∧ Below w.heap.size w w' := by
  have HC := Aside0.mk (idx_calls g b p A c xs w hC hp)
  clear hC hp
  go_enter Try.func73, Try.ntmps73
  go_wp2_with fail
  refine HC.out.mono ?_
  rintro e w2 ⟨r, rfl, hr, hB⟩
  have HB := Aside0.mk hB
  have HR : Aside0 (decide (0 ≤ r) = xs.any p) := ⟨by rw [Bool.eq_iff_iff, decide_eq_true_iff]; exact hr⟩
  clear hB hr
  go_wp2_with fail
  go_ret
  exact ⟨by rw [← HR.out]; rfl, HB.out⟩

theorem cf95 (args : Array Value) (w : World) : (callFunc 95 args).run Try.prog w = .ok (.enter 95 args) w := by kernel_rfl
set_option maxRecDepth 100000 in
theorem in95_calls (bx : Nat) (A : Option Addr) (c : Nat) (V : List Int) (e : Int) (w : World) (hb : w.cell? ⟨bx, 0, none⟩ = some (.slice A V.length c)) (hC : (Kd.int .i64).C w A V.length V) (hc : V.length ≤ c) (hl : V.length ≤ 1000000) :
    Calls Try.prog 95 #[.int .i64 e, .pointer (some ⟨bx, 0, none⟩)] w fun e' w' => e' = .returned (.bool (decide (e ∈ V))) ∧ Below w.heap.size w w' := by
  obtain ⟨k, hk⟩ := (contains_ev V e (by omega)).rounds
  have HC := Aside0.mk (slices_Contains_int_int.calls k A c V e (decide (e ∈ V)) w hC hc hk)
  clear hC hk
  go_enter Try.func95, Try.ntmps95
  go_wp2_with fail
  refine HC.out.mono ?_
  rintro e w2 ⟨rfl, hd⟩
  have HB : Aside0 (Below w.heap.size w w2) := ⟨by obtain ⟨n, rfl⟩ := hd.out; exact pw_below_drewN (Below.refl _ _) n⟩
  clear hd
  go_wp2_with fail
  go_ret
  exact ⟨rfl, HB.out⟩
noncomputable def rtB (x : S67) : Bool := !(x.f1.any (fun y => decide (y ∈ x.f0))) && !(x.f0.length == 0) && decide (x.f0.length + x.f1.length ≤ 9) && risB x.f0 && risB x.f1
theorem C_conf1 {w : World} {bb : Nat} {T : TypeId} {A0 A1 : Option Addr} {c0 c1 : Nat} (x : S67) (h : w.heap[bb]? = some (.cells #[.slice A0 x.f0.length c0, .slice A1 x.f1.length c1] T (0, 0)))
    (l0 : x.f0.length ≤ c0) (g0 : (Kd.int .i64).C w A0 x.f0.length x.f0) (l1 : x.f1.length ≤ c1) (g1 : (Kd.int .i64).C w A1 x.f1.length x.f1) : Kd.C k67 w (some ⟨bb, 0, none⟩) 1 [x] := by
  refine ⟨rfl, by omega, fun _ => ⟨_, rfl, fun j p hj => ?_⟩⟩
  rcases j with _ | j
  · obtain rfl : x = p := by simpa using hj
    refine ⟨_, rfl, k67_mk w x l0 g0 l1 g1, fun i u hu => ?_⟩
    rw [Addr.add_lit]
    simp only [Nat.zero_mul, Nat.zero_add]
    rw [blk_cell h i, ← hu]
    rcases i with _ | _ | i
    · rfl
    · rfl
    · simp at hu
  · simp at hj
theorem C_conf2 {w : World} {bb : Nat} {T : TypeId} {A0 A1 A2 A3 : Option Addr} {c0 c1 c2 c3 : Nat} (x y : S67) (h : w.heap[bb]? = some (.cells #[.slice A0 x.f0.length c0, .slice A1 x.f1.length c1, .slice A2 y.f0.length c2, .slice A3 y.f1.length c3] T (0, 0)))
    (l0 : x.f0.length ≤ c0) (g0 : (Kd.int .i64).C w A0 x.f0.length x.f0) (l1 : x.f1.length ≤ c1) (g1 : (Kd.int .i64).C w A1 x.f1.length x.f1)
    (l2 : y.f0.length ≤ c2) (g2 : (Kd.int .i64).C w A2 y.f0.length y.f0) (l3 : y.f1.length ≤ c3) (g3 : (Kd.int .i64).C w A3 y.f1.length y.f1) : Kd.C k67 w (some ⟨bb, 0, none⟩) 2 [x, y] := by
  refine ⟨rfl, by omega, fun _ => ⟨_, rfl, fun j p hj => ?_⟩⟩
  rcases j with _ | j
  · obtain rfl : x = p := by simpa using hj
    refine ⟨_, rfl, k67_mk w x l0 g0 l1 g1, fun i u hu => ?_⟩
    rw [Addr.add_lit]
    simp only [Nat.zero_mul, Nat.zero_add]
    rw [blk_cell h i, ← hu]
    rcases i with _ | _ | i
    · rfl
    · rfl
    · simp at hu
  · obtain rfl : j = 0 := by
      rcases j with _ | j
      · rfl
      · simp at hj
    obtain rfl : y = p := by simpa using hj
    refine ⟨_, rfl, k67_mk w y l2 g2 l3 g3, fun i u hu => ?_⟩
    rw [Addr.add_lit]
    rw [show (0 : Nat) + ((0 + 1) * k67.sz + i) = 2 + i from by show 0 + ((0 + 1) * 2 + i) = 2 + i; omega]
    rw [blk_cell h (2 + i), ← hu]
    rcases i with _ | _ | i
    · rfl
    · rfl
    · simp at hu
set_option maxHeartbeats 2000000 in
set_option maxRecDepth 100000 in
theorem right_calls (A : Option Addr) (c : Nat) (cs : List S67) (w : World) (hC : Kd.C k67 w A cs.length cs) (hl : ∀ x ∈ cs, x.f0.length ≤ 1000000 ∧ x.f1.length ≤ 1000000) :
    Calls Try.prog 52 #[.slice A cs.length c] w fun e w' => e = .returned (.bool (cs.all rtB)) ∧ Below w.heap.size w w' := by
  have hu67 := Try.underlying67
  have HC := Aside0.mk hC
  have HL := Aside0.mk hl
  have hmax := hC.2.1
  clear hC hl
  go_enter Try.func52, Try.ntmps52
  go_wp2_with fail
  go_loopg [4, 5, 8] cs.length (fun kq v4 v5 v8 wr => ∃ i : Nat, v8 = .int .i64 i ∧ i + kq = cs.length ∧ Aside0 ((cs.take i).all rtB = true) ∧ Aside0 (Below w.heap.size w wr))
  case atStart => exact ⟨0, rfl, by omega, ⟨rfl⟩, ⟨Below.refl _ _⟩⟩
  case round =>
    obtain ⟨i, rfl, hi, HA, HB⟩ := hrel
    by_cases hlt : i < cs.length
    · have hlt' : (i : Int) < (cs.length : Int) := by omega
      obtain ⟨ad, A0, c0, A1, c1, ea, y0, y1, l0, g0, l1, g1⟩ := at_T67 (Kd.C_below HC.out HB.out) i (by omega) hlt'
      subst ea
      have er : rd_T67 cs (i : Int) = cs[i] := by simp [rd_T67, hlt]
      rw [er] at y0 y1 l0 g0 l1 g1
      simp only [Int.toNat_natCast] at y0 y1
      have HT : Aside0 ((cs.take (i + 1)).all rtB = rtB cs[i]) := ⟨by rw [List.take_succ_eq_append_getElem hlt, List.all_append, HA.out]; simp⟩
      have HF : Aside0 (rtB cs[i] = false → cs.all rtB = false) := ⟨fun h => by rw [List.all_eq_false]; exact ⟨_, List.getElem_mem hlt, by simp [h]⟩⟩
      obtain ⟨hl0, hl1⟩ := HL.out _ (List.getElem_mem hlt)
      clear er
      generalize cs[i] = x at y0 y1 l0 g0 l1 g1 HT HF hl0 hl1
      have G0 := Aside0.mk g0
      have G1 := Aside0.mk g1
      clear g0 g1
      have HX := Aside0.mk (grown_new (w := wr) #[Value.slice A0 x.f0.length c0, Value.slice A1 x.f1.length c1] 67)
      have HBL : Aside0 (Below wr.heap.size wr (wr.alloc (.cells #[Value.slice A0 x.f0.length c0, Value.slice A1 x.f1.length c1] 67))) := ⟨(Below.refl _ wr).alloc (Nat.le_refl _) _⟩
      have HBX : Aside0 (Below w.heap.size w (wr.alloc (.cells #[Value.slice A0 x.f0.length c0, Value.slice A1 x.f1.length c1] 67))) := ⟨HB.out.alloc HB.out.size _⟩
      have G0n := Aside0.mk (Kd.C_below G0.out HBL.out)
      have G1n := Aside0.mk (Kd.C_below G1.out HBL.out)
      go_wp2_with fail
      generalize wr.alloc (Obj.cells #[Value.slice A0 x.f0.length c0, Value.slice A1 x.f1.length c1] 67) = w1 at HX HBX G0n G1n ⊢
      generalize wr.heap.size = bx at HX ⊢
      clear HBL HB HA G0 G1 y0 y1
      have x0 := (blk_cell HX.out 0).trans (show _ = some (Value.slice A0 x.f0.length c0) from rfl)
      refine (any_calls 95 bx (fun y => decide (y ∈ x.f0)) A1 c1 x.f1 w1 G1n.out ⟨cf95, fun e he W hW => in95_calls bx A0 c0 x.f0 e W ((hW.cell (cell_lt x0)).trans x0) (Kd.C_below G0n.out hW) l0 hl0⟩).mono ?_
      rintro e w2 ⟨rfl, hb⟩
      have HX2 := Aside0.mk (blk_below HX.out hb)
      have HB2 := Aside0.mk (HBX.out.trans (hb.mono HBX.out.size))
      have G02 := Aside0.mk (Kd.C_below G0n.out hb)
      have G12 := Aside0.mk (Kd.C_below G1n.out hb)
      clear hb x0 HX HBX G0n G1n
      have z0 := (blk_cell HX2.out 0).trans (show _ = some (Value.slice A0 x.f0.length c0) from rfl)
      have z1 := (blk_cell HX2.out 1).trans (show _ = some (Value.slice A1 x.f1.length c1) from rfl)
      generalize han : (x.f1.any (fun y => decide (y ∈ x.f0))) = an
      have HAN := Aside0.mk han
      clear han
      cases an with
      | true =>
        have HR := HF.out (by unfold rtB; rw [HAN.out]; rfl)
        have HRR := Aside0.mk HR
        clear HR
        go_wp2_with fail
        go_ret
        exact ⟨by rw [HRR.out]; rfl, HB2.out⟩
      | false =>
        by_cases h0 : x.f0.length = 0
        · have hd : ((x.f0.length : Int) == 0) = true := by simpa using h0
          have HRR := Aside0.mk (HF.out (by unfold rtB; rw [HAN.out, h0]; rfl))
          clear h0
          go_wp2_with fail
          go_ret
          exact ⟨by rw [HRR.out]; rfl, HB2.out⟩
        · have hd : ((x.f0.length : Int) == 0) = false := by simpa using h0
          have h0n : (x.f0.length == 0) = false := by simpa using h0
          have H0N := Aside0.mk h0n
          clear h0 h0n
          by_cases h9 : x.f0.length + x.f1.length ≤ 9
          · have hd9 : decide ((9 : Int) < (x.f0.length : Int) + (x.f1.length : Int)) = false := decide_eq_false (by omega)
            have hd9' : decide (9 < x.f0.length + x.f1.length) = false := decide_eq_false (by omega)
            have H9 : Aside0 (decide (x.f0.length + x.f1.length ≤ 9) = true) := ⟨decide_eq_true h9⟩
            obtain ⟨k0, hk0⟩ := (rising_ev x.f0 (by omega)).rounds
            obtain ⟨k1, hk1⟩ := (rising_ev x.f1 (by omega)).rounds
            have HK0 := Aside0.mk hk0
            have HK1 := Aside0.mk hk1
            have HRB : Aside0 (rtB x = (risB x.f0 && risB x.f1)) := ⟨by unfold rtB; rw [HAN.out, H0N.out, H9.out]; rfl⟩
            clear hk0 hk1 h9
            go_wp2_with fail
            refine (members_rising.calls k0 A0 c0 x.f0 (risB x.f0) w2 G02.out l0 HK0.out).mono ?_
            rintro e w3 ⟨rfl, hdr⟩
            have hb : Below w2.heap.size w2 w3 := by obtain ⟨n, rfl⟩ := hdr.out; exact pw_below_drewN (Below.refl _ _) n
            have HX3 := Aside0.mk (blk_below HX2.out hb)
            have HB3 := Aside0.mk (HB2.out.trans (hb.mono HB2.out.size))
            have G13 := Aside0.mk (Kd.C_below G12.out hb)
            clear hb hdr z0 z1
            have z1 := (blk_cell HX3.out 1).trans (show _ = some (Value.slice A1 x.f1.length c1) from rfl)
            generalize risB x.f0 = r0 at HRB ⊢
            cases r0 with
            | false =>
              have HRR := Aside0.mk (HF.out (by rw [HRB.out]; rfl))
              go_wp2_with fail
              go_ret
              exact ⟨by rw [HRR.out]; rfl, HB3.out⟩
            | true =>
              go_wp2_with fail
              refine (members_rising.calls k1 A1 c1 x.f1 (risB x.f1) w3 G13.out l1 HK1.out).mono ?_
              rintro e w4 ⟨rfl, hdr⟩
              have hb : Below w3.heap.size w3 w4 := by obtain ⟨n, rfl⟩ := hdr.out; exact pw_below_drewN (Below.refl _ _) n
              have HB4 := Aside0.mk (HB3.out.trans (hb.mono HB3.out.size))
              clear hb hdr z1
              generalize risB x.f1 = r1 at HRB ⊢
              cases r1 with
              | false =>
                have HRR := Aside0.mk (HF.out (by rw [HRB.out]; rfl))
                go_wp2_with fail
                go_ret
                exact ⟨by rw [HRR.out]; rfl, HB4.out⟩
              | true =>
                have HTT : Aside0 ((cs.take (i + 1)).all rtB = true) := ⟨by rw [HT.out, HRB.out]; rfl⟩
                go_wp2_with fail
                go_roundg (cs.length - (i + 1))
                case measure => omega
                case rel => exact ⟨i + 1, by go_num, by omega, HTT, HB4⟩
          · have hd9 : decide ((9 : Int) < (x.f0.length : Int) + (x.f1.length : Int)) = true := decide_eq_true (by omega)
            have hd9' : decide (9 < x.f0.length + x.f1.length) = true := decide_eq_true (by omega)
            have HRR := Aside0.mk (HF.out (by unfold rtB; rw [HAN.out, H0N.out, decide_eq_false h9]; rfl))
            clear h9
            go_wp2_with fail
            go_ret
            exact ⟨by rw [HRR.out]; rfl, HB2.out⟩
    · have HTT : Aside0 (cs.all rtB = true) := ⟨by have := HA.out; rwa [List.take_of_length_le (by omega)] at this⟩
      go_wp2_with fail
      go_ret
      exact ⟨by rw [HTT.out]; rfl, HB.out⟩
end Go.Proofs.Ytkeadpichlgagaa.Me
