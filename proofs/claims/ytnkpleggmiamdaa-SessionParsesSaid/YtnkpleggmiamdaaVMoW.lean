/- Kept of the text MoW: what is reached (wip/tools/prune.py). -/
import Derived.Test.YtnkpleggmiamdaaVMoV
namespace Go.Proofs.Ytnkpleggmiamdaa.Mo
open Go.RowKit Go.Maps Go.Proofs.YtnkpleggmiamdaaW.PrintWords Go.Proofs.YtnkpleggmiamdaaW.PrintLast Go.Proofs.YtnkpleggmiamdaaW.PrintMore
open Go.Proofs.Ytnkpleggmiamdaa.PSessionParses Go.Proofs.Ytnkpleggmiamdaa.Mp
set_option linter.unusedVariables false
set_option linter.unusedSimpArgs false
structure TkIs (w0 w : World) (g : Nat) (bs : List Int) (e : Int) : Prop where
  ex : ∃ A c, w.heap[g]? = some (.cells #[.slice A bs.length c, .int .i64 e] 137 (0, 0)) ∧ bs.length ≤ c ∧ (Kd.int .u8).C w0 A bs.length bs
  ge : w0.heap.size ≤ g
theorem TkIs.fr {w0 w w1 : World} {g : Nat} {bs : List Int} {e : Int} {S : Nat → Prop} (h : TkIs w0 w g bs e) (hf : FrS S w w1) (hn : ¬ S g) : TkIs w0 w1 g bs e := by
  obtain ⟨⟨A, c, hb, hc, hC⟩, hg⟩ := h
  exact ⟨⟨A, c, hf.blk hb hn, hc, hC⟩, hg⟩
theorem TkIs.below {w0 w w1 : World} {g : Nat} {bs : List Int} {e : Int} (h : TkIs w0 w g bs e) (hf : Below w.heap.size w w1) : TkIs w0 w1 g bs e := by
  obtain ⟨⟨A, c, hb, hc, hC⟩, hg⟩ := h
  exact ⟨⟨A, c, blk_below hb hf, hc, hC⟩, hg⟩
theorem TkIs.lt {w0 w : World} {g : Nat} {bs : List Int} {e : Int} (h : TkIs w0 w g bs e) : g < w.heap.size := by
  obtain ⟨⟨A, c, hb, hc, hC⟩, hg⟩ := h
  exact blk_lt hb
def orE (e c : Int) : Int := if e = 0 then c else e
theorem orE_0 (c : Int) : orE 0 c = c := by simp [orE]
theorem orE_n {e : Int} (h : e ≠ 0) (c : Int) : orE e c = e := by simp [orE, h]
set_option maxRecDepth 100000 in
theorem fail_calls (w0 w : World) (g : Nat) (bs : List Int) (e c : Int) (h : TkIs w0 w g bs e) :
    Calls Try.prog 81 #[.pointer (some ⟨g, 0, none⟩), .int .i64 c] w fun E w' => E = .returned (.tuple #[]) ∧ TkIs w0 w' g bs (orE e c) ∧ FrS (fun k => k = g) w w' := by
  obtain ⟨⟨A, cp, hb, hc, hC⟩, hg⟩ := h
  have c1 : w.cell? ⟨g, 1, none⟩ = some (.int .i64 e) := (blk_cell hb 1).trans rfl
  have f1 := blk_frozen hb 1
  have HB := Aside0.mk hb
  have HC := Aside0.mk hC
  clear hb hC
  by_cases he : e = 0
  · subst he
    go_enter Try.func81, Try.ntmps81
    go_wp2_with fail
    go_end0
    refine ⟨rfl, ⟨⟨A, cp, by rw [orE_0]; exact blk_set HB.out 1 _, hc, HC.out⟩, hg⟩, (FrS.refl (fun k => k = g) w).set (p := ⟨g, 1, none⟩) (fun _ => rfl) _⟩
  · have t1 : (e == 0) = false := by simpa using he
    have HE := Aside0.mk he
    clear he
    go_enter Try.func81, Try.ntmps81
    go_wp2_with fail
    go_end0
    exact ⟨rfl, ⟨⟨A, cp, by rw [orE_n HE.out]; exact HB.out, hc, HC.out⟩, hg⟩, FrS.refl _ _⟩
def beN (l : List Int) : Int := l.foldl (fun n c => 256 * n + c) 0
theorem beN_snoc (l : List Int) (x : Int) : beN (l ++ [x]) = 256 * beN l + x := by simp [beN]
theorem beN_lt : ∀ (n : Nat) (l : List Int), l.length = n → (∀ x ∈ l, 0 ≤ x ∧ x ≤ 255) → 0 ≤ beN l ∧ beN l < 256 ^ n
  | 0, l, h, _ => by
    obtain rfl : l = [] := List.length_eq_zero_iff.1 h
    simp [beN]
  | n + 1, l, h, hx => by
    obtain ⟨l', x, rfl⟩ : ∃ l' x, l = l' ++ [x] := ⟨l.dropLast, l.getLast (by intro e; subst e; simp at h), (List.dropLast_concat_getLast _).symm⟩
    have ih := beN_lt n l' (by simpa using h) (fun y hy => hx y (by simp [hy]))
    have h0 := hx x (by simp)
    rw [beN_snoc, Int.pow_succ]
    omega
def numS (bs : List Int) (e : Int) : Int × List Int × Int :=
  if e = 0 then match bs with
    | [] => (0, [], 11)
    | s :: r => if 8 < s ∨ (0 < s ∧ 0 < r.length ∧ r.getD 0 0 = 0) then (0, s :: r, 13) else if (r.length : Int) < s then (0, s :: r, 11) else (beN (r.take s.toNat), r.drop s.toNat, 0)
  else (0, bs, e)
theorem add_1 (ad : Addr) : ad.add 1 = ⟨ad.block, ad.off + 1, none⟩ := by
  have h0 : ad.add 0 = ad := by simp [Addr.add]
  have := add_field ad 0 1 (by omega)
  rw [h0] at this
  exact this
theorem i5' : (Try.prog.info? 5).map (fun i => i.size) = some 1 := by kernel_rfl
theorem i5x : ∃ i, Try.prog.info? 5 = some i ∧ i.size = 1 := Option.map_eq_some_iff.1 i5'
def NumQ (w0 w : World) (g : Nat) (bs : List Int) (e : Int) (E : Ending) (w' : World) : Prop :=
  ∃ n bs2 e2, numS bs e = (n, bs2, e2) ∧ E = .returned (.int .u64 n) ∧ TkIs w0 w' g bs2 e2 ∧ FrS (fun k => k = g) w w'
theorem or8 {n c : Int} (h0 : 0 ≤ n) (h1 : n < 72057594037927936) (c0 : 0 ≤ c) (c1 : c ≤ 255) : bits .or .u64 (n * 256) c = 256 * n + c := by
  rw [bits_join .u64 64 (by decide) (fun n h0 h1 => by simp [IntKind.wrap, IntKind.signed, IntKind.bits]; omega) 8 (n * 256) c (by omega) (by omega) (by omega) c0 (by omega) (by omega)]
  omega
set_option maxHeartbeats 1000000 in
set_option maxRecDepth 100000 in
theorem number_calls (w0 w : World) (g : Nat) (bs : List Int) (e : Int) (hB : Below w0.heap.size w0 w) (h : TkIs w0 w g bs e) (hx : ∀ x ∈ bs, 0 ≤ x ∧ x ≤ 255) :
    Calls Try.prog 95 #[.pointer (some ⟨g, 0, none⟩)] w (NumQ w0 w g bs e) := by
  have HT := Aside0.mk h
  have HB := Aside0.mk hB
  have HX := Aside0.mk hx
  obtain ⟨⟨A, cp, hb, hc, hC⟩, hg⟩ := h
  have c0 : w.cell? ⟨g, 0, none⟩ = some (.slice A bs.length cp) := (blk_cell hb 0).trans rfl
  have c1 : w.cell? ⟨g, 1, none⟩ = some (.int .i64 e) := (blk_cell hb 1).trans rfl
  have f0 := blk_frozen hb 0
  have HC := Aside0.mk hC
  have HBB := Aside0.mk hb
  have hmax := hC.2.1
  clear hb hC hB hx
  by_cases he : e = 0
  · subst he
    cases bs with
    | nil =>
      have HF := Aside0.mk (fail_calls w0 w g [] 0 11 HT.out)
      rw [orE_0] at HF
      go_enter Try.func95, Try.ntmps95
      go_wp2_with fail
      refine HF.out.mono ?_
      rintro e w2 ⟨rfl, hT, hF⟩
      have HT2 := Aside0.mk hT
      obtain ⟨⟨A2, cp2, hb2, hc2, hC2⟩, _⟩ := hT
      have d1 : w2.cell? ⟨g, 1, none⟩ = some (.int .i64 11) := (blk_cell hb2 1).trans rfl
      have HF2 := Aside0.mk hF
      clear hb2 hC2 hF c0 c1 f0
      go_wp2_with fail
      go_ret
      exact ⟨0, [], 11, rfl, rfl, HT2.out, HF2.out⟩
    | cons s r =>
      obtain ⟨ad, rfl, x0⟩ := Kd.at_int (Kd.C_below HC.out HB.out) 0 (by omega) (by simp)
      have hs0 := (HX.out s (by simp)).1
      have hs1 := (HX.out s (by simp)).2
      have hrs : rd (s :: r) 0 = s := rfl
      rw [hrs] at x0
      have x0' : w.cell? ad = some (.int .u8 s) := x0
      clear hrs x0
      obtain ⟨i5v, i5, i5s⟩ := i5x
      obtain ⟨n, hn⟩ : ∃ n, (s :: r).length = n := ⟨_, rfl⟩
      have HN := Aside0.mk hn
      have hn1 : 1 ≤ n := by rw [← hn]; simp
      have HN2 : Aside0 (r.length + 1 = n) := ⟨by rw [← hn]; simp⟩
      rw [hn] at c0 hmax hc
      clear hn
      have tl : ((n : Int) == 0) = false := by have : (n : Int) ≠ 0 := by omega
                                               simpa using this
      by_cases h8 : 8 < s
      · have HF := Aside0.mk (fail_calls w0 w g (s :: r) 0 13 HT.out)
        rw [orE_0] at HF
        go_enter Try.func95, Try.ntmps95
        go_wp2_with fail
        refine HF.out.mono ?_
        rintro e w2 ⟨rfl, hT, hF⟩
        have HT2 := Aside0.mk hT
        have HF2 := Aside0.mk hF
        clear hT hF c0 c1 f0
        go_wp2_with fail
        go_ret
        exact ⟨0, s :: r, 13, by unfold numS; rw [if_pos rfl]; simp only; rw [if_pos (.inl h8)], rfl, HT2.out, HF2.out⟩
      · have k8 : s ≤ 8 := by omega
        have H8 := Aside0.mk h8
        clear h8
        by_cases hB1 : 0 < s ∧ 1 < n ∧ rd (s :: r) 1 = 0
        · obtain ⟨q0, q1, q2⟩ := hB1
          have HF := Aside0.mk (fail_calls w0 w g (s :: r) 0 13 HT.out)
          rw [orE_0] at HF
          obtain ⟨ad', e1, x1⟩ := Kd.at_int (Kd.C_below HC.out HB.out) 1 (by omega) (by rw [HN.out]; omega)
          cases e1
          rw [q2] at x1
          have x1' : w.cell? ⟨ad.block, ad.off + 1, none⟩ = some (.int .u8 0) := by rw [← add_1]; exact x1
          have q1' : (1 : Int) < (n : Int) := by omega
          have HQ2 : Aside0 (r.getD 0 0 = 0) := ⟨by simpa [rd] using q2⟩
          clear q2 x1
          go_enter Try.func95, Try.ntmps95
          go_wp2_with fail
          refine HF.out.mono ?_
          rintro e w2 ⟨rfl, hT, hF⟩
          have HT2 := Aside0.mk hT
          have HF2 := Aside0.mk hF
          clear hT hF c0 c1 f0
          go_wp2_with fail
          go_ret
          exact ⟨0, s :: r, 13, by unfold numS; rw [if_pos rfl]; simp only; rw [if_pos (.inr ⟨q0, by have := HN2.out; omega, HQ2.out⟩)], rfl, HT2.out, HF2.out⟩
        · have HQ : Aside0 (¬ (8 < s ∨ (0 < s ∧ 0 < r.length ∧ r.getD 0 0 = 0))) := ⟨by
            rintro (h | ⟨h1, h2, h3⟩)
            · omega
            · exact hB1 ⟨h1, by have := HN2.out; omega, by simpa [rd] using h3⟩⟩
          have HG : Aside0 ((s = 0) ∨ (0 < s ∧ n = 1) ∨ (0 < s ∧ 1 < n ∧ ∃ y, y ≠ 0 ∧ w.cell? ⟨ad.block, ad.off + 1, none⟩ = some (.int .u8 y))) := ⟨by
            by_cases h0 : s = 0
            · exact .inl h0
            · by_cases h1 : n = 1
              · exact .inr (.inl ⟨by omega, h1⟩)
              · refine .inr (.inr ⟨by omega, by omega, rd (s :: r) 1, fun h => hB1 ⟨by omega, by omega, h⟩, ?_⟩)
                obtain ⟨ad', e1, x1⟩ := Kd.at_int (Kd.C_below HC.out HB.out) 1 (by omega) (by rw [HN.out]; omega)
                cases e1
                rw [← add_1]
                exact x1⟩
          clear hB1
          by_cases hS : (n : Int) - 1 < s
          · have HF := Aside0.mk (fail_calls w0 w g (s :: r) 0 11 HT.out)
            rw [orE_0] at HF
            rcases HG.out with h | ⟨h1, h2⟩ | ⟨h1, h2, y, h3, h4⟩
            · omega
            · subst h2
              go_enter Try.func95, Try.ntmps95
              go_wp2_with fail
              refine HF.out.mono ?_
              rintro e w2 ⟨rfl, hT, hF⟩
              have HT2 := Aside0.mk hT
              have HF2 := Aside0.mk hF
              clear hT hF c0 c1 f0
              go_wp2_with fail
              go_ret
              exact ⟨0, s :: r, 11, by unfold numS; rw [if_pos rfl]; simp only; rw [if_neg HQ.out, if_pos (by have := HN2.out; omega)], rfl, HT2.out, HF2.out⟩
            · have h3' : (y == 0) = false := by simpa using h3
              have h2' : (1 : Int) < (n : Int) := by omega
              clear h3
              go_enter Try.func95, Try.ntmps95
              go_wp2_with fail
              refine HF.out.mono ?_
              rintro e w2 ⟨rfl, hT, hF⟩
              have HT2 := Aside0.mk hT
              have HF2 := Aside0.mk hF
              clear hT hF c0 c1 f0
              go_wp2_with fail
              go_ret
              exact ⟨0, s :: r, 11, by unfold numS; rw [if_pos rfl]; simp only; rw [if_neg HQ.out, if_pos (by have := HN2.out; omega)], rfl, HT2.out, HF2.out⟩
          · have hS' : s ≤ (n : Int) - 1 := by omega
            have hCw := Kd.C_below HC.out HB.out
            have hm1 := cut_mid (P := Try.prog) 26 5 .i64 .i64 Try.underlying26 i5 1 i5s (some ad) n cp 1 (1 + s) (by omega) (by omega) (by omega) hc
            have hm2 := cut_from (P := Try.prog) 26 5 .i64 Try.underlying26 i5 1 i5s (some ad) n cp (1 + s) (by omega) (by omega)
            have hl1 : (((s :: r).take (1 + s).toNat).drop 1) = r.take s.toNat := by
              have e : (1 + s).toNat = s.toNat + 1 := by omega
              rw [e]
              simp
            have hl2 : (s :: r).drop (1 + s).toNat = r.drop s.toNat := by
              have e : (1 + s).toNat = s.toNat + 1 := by omega
              rw [e]
              simp
            have hC1 := Kd.C_mid (c := cp) (lo := 1) (hi := (1 + s).toNat) (by rw [HN.out]; rw [HN.out] at hCw; exact hCw) (by omega) (by rw [HN.out]; omega) (by rw [HN.out]; omega)
            have hC2 := Kd.C_drop (m := (1 + s).toNat) (c := cp) HC.out (by rw [HN.out]; omega) (by rw [HN.out]; omega)
            rw [hl1] at hC1
            rw [hl2] at hC2
            have e1 : (1 + s).toNat - Int.toNat 1 = s.toNat := by omega
            rw [e1] at hm1
            have hz : (Kd.int .u8).sz = 1 := rfl
            rw [hz] at hC1 hC2
            have e2 : Int.toNat 1 = 1 := rfl
            rw [e2] at hm1
            have hrl : (r.take s.toNat).length = s.toNat := by rw [List.length_take]; have := HN2.out; omega
            have hdl : (r.drop s.toNat).length = n - (1 + s).toNat := by rw [List.length_drop]; have := HN2.out; omega
            rw [hdl] at hC2
            have HRE : Aside0 (numS (s :: r) 0 = (beN (r.take s.toNat), r.drop s.toNat, 0)) := ⟨by unfold numS; rw [if_pos rfl]; simp only; rw [if_neg HQ.out, if_neg (by have := HN2.out; omega)]⟩
            have HX1 : Aside0 (∀ x ∈ r.take s.toNat, 0 ≤ x ∧ x ≤ 255) := ⟨fun x hx => HX.out x (by simp [List.mem_of_mem_take hx])⟩
            have HCP : Aside0 (n - (1 + s).toNat ≤ cp - (1 + s).toNat) := ⟨by omega⟩
            clear hl1 hl2 e1 e2 hz hCw
            generalize (if cp = 1 then some ad else (some ad).map (·.add (1 * 1))) = A1 at hm1 hC1
            generalize (if cp = (1 + s).toNat then some ad else (some ad).map (·.add ((1 + s).toNat * 1))) = A2 at hm2 hC2
            have HC2 := Aside0.mk hC2
            have HC1 := Aside0.mk hC1
            have HDL := Aside0.mk hdl
            have HRL := Aside0.mk hrl
            clear hC1 hC2 hdl hrl i5 i5s
            generalize hds : r.drop s.toNat = ds at HRE HC2 HDL
            generalize hxs : r.take s.toNat = xs at HRE HC1 HRL HX1
            clear hds hxs
            obtain ⟨m, hm⟩ : ∃ m, s.toNat = m := ⟨_, rfl⟩
            have HM := Aside0.mk hm
            have hm8 : m ≤ 8 := by omega
            rw [hm] at hm1 HRL
            clear hm
            have hmb : (m : Int) ≤ 8 := by omega
            rcases HG.out with h | ⟨h1, h2⟩ | ⟨h1, h2, y, h3, h4⟩
            rotate_left
            · omega
            · have h3' : (y == 0) = false := by simpa using h3
              have h2' : (1 : Int) < (n : Int) := by omega
              clear h3
              go_enter Try.func95, Try.ntmps95
              go_wp2_with fail
              go_loop [4, 6, 72] (fun v4 v6 v72 => ∃ i : Nat, i ≤ m ∧ v72 = .int .i64 i ∧ v4 = .int .u64 (beN (xs.take i))) (fun _ _ v72 => m - (intOf v72).toNat)
              case atStart => exact ⟨0, by omega, rfl, rfl⟩
              case round =>
                obtain ⟨i, hi, rfl, rfl⟩ := hrel
                by_cases hlt : i < m
                · have hlt' : (i : Int) < (m : Int) := by omega
                  obtain ⟨ad1, rfl, z0⟩ := Kd.at_int HC1.out i (by omega) (by rw [HRL.out]; exact hlt')
                  simp only [Int.toNat_natCast] at z0
                  have hil : i < xs.length := by rw [HRL.out]; exact hlt
                  have HT1 : Aside0 (beN (xs.take (i + 1)) = 256 * beN (xs.take i) + rd xs i) := ⟨by
                    rw [List.take_succ_eq_append_getElem hil, beN_snoc]
                    have : rd xs (i : Int) = xs[i] := by simp [rd, hil]
                    rw [this]⟩
                  have hb1 := HX1.out xs[i] (List.getElem_mem hil)
                  have hrd : rd xs (i : Int) = xs[i] := by simp [rd, hil]
                  rw [hrd] at z0 HT1
                  have hbn := beN_lt i (xs.take i) (by rw [List.length_take]; omega) (fun x hx => HX1.out x (List.mem_of_mem_take hx))
                  have hbn2 : beN (xs.take i) < 72057594037927936 := by
                    have h7 : (256 : Int) ^ i ≤ 256 ^ 7 := by
                      exact_mod_cast Nat.pow_le_pow_right (show 0 < 256 by decide) (show i ≤ 7 by omega)
                    have : (256 : Int) ^ 7 = 72057594037927936 := by decide
                    omega
                  have hbn1 := hbn.1
                  clear hbn hrd
                  generalize beN (xs.take i) = N at HT1 hbn1 hbn2 ⊢
                  generalize xs[i] = x at z0 HT1 hb1
                  clear hil
                  obtain ⟨hx0, hx1⟩ := hb1
                  have hor := or8 hbn1 hbn2 hx0 hx1
                  go_wp2_with fail
                  go_round
                  case rel => exact ⟨i + 1, by omega, by go_num, by rw [HT1.out]⟩
                  case measure => simp [intOf]; omega
                · have HXE : Aside0 (xs.take i = xs) := ⟨List.take_of_length_le (by rw [HRL.out]; omega)⟩
                  rw [HXE.out]
                  go_wp2_with fail
                  go_ret
                  refine ⟨_, _, _, HRE.out, rfl, ⟨⟨A2, cp - (1 + s).toNat, ?_, ?_, ?_⟩, hg⟩, (FrS.refl (fun k => k = g) w).set (p := ⟨g, 0, none⟩) (fun _ => rfl) _⟩
                  · rw [HDL.out]; exact blk_set HBB.out 0 _
                  · rw [HDL.out]; exact HCP.out
                  · rw [HDL.out]; exact HC2.out
            · have h0s : s ≤ 0 := by omega
              clear h
              go_enter Try.func95, Try.ntmps95
              go_wp2_with fail
              go_loop [4, 6, 72] (fun v4 v6 v72 => ∃ i : Nat, i ≤ m ∧ v72 = .int .i64 i ∧ v4 = .int .u64 (beN (xs.take i))) (fun _ _ v72 => m - (intOf v72).toNat)
              case atStart => exact ⟨0, by omega, rfl, rfl⟩
              case round =>
                obtain ⟨i, hi, rfl, rfl⟩ := hrel
                by_cases hlt : i < m
                · have hlt' : (i : Int) < (m : Int) := by omega
                  obtain ⟨ad1, rfl, z0⟩ := Kd.at_int HC1.out i (by omega) (by rw [HRL.out]; exact hlt')
                  simp only [Int.toNat_natCast] at z0
                  have hil : i < xs.length := by rw [HRL.out]; exact hlt
                  have HT1 : Aside0 (beN (xs.take (i + 1)) = 256 * beN (xs.take i) + rd xs i) := ⟨by
                    rw [List.take_succ_eq_append_getElem hil, beN_snoc]
                    have : rd xs (i : Int) = xs[i] := by simp [rd, hil]
                    rw [this]⟩
                  have hb1 := HX1.out xs[i] (List.getElem_mem hil)
                  have hrd : rd xs (i : Int) = xs[i] := by simp [rd, hil]
                  rw [hrd] at z0 HT1
                  have hbn := beN_lt i (xs.take i) (by rw [List.length_take]; omega) (fun x hx => HX1.out x (List.mem_of_mem_take hx))
                  have hbn2 : beN (xs.take i) < 72057594037927936 := by
                    have h7 : (256 : Int) ^ i ≤ 256 ^ 7 := by
                      exact_mod_cast Nat.pow_le_pow_right (show 0 < 256 by decide) (show i ≤ 7 by omega)
                    have : (256 : Int) ^ 7 = 72057594037927936 := by decide
                    omega
                  have hbn1 := hbn.1
                  clear hbn hrd
                  generalize beN (xs.take i) = N at HT1 hbn1 hbn2 ⊢
                  generalize xs[i] = x at z0 HT1 hb1
                  clear hil
                  obtain ⟨hx0, hx1⟩ := hb1
                  have hor := or8 hbn1 hbn2 hx0 hx1
                  go_wp2_with fail
                  go_round
                  case rel => exact ⟨i + 1, by omega, by go_num, by rw [HT1.out]⟩
                  case measure => simp [intOf]; omega
                · have HXE : Aside0 (xs.take i = xs) := ⟨List.take_of_length_le (by rw [HRL.out]; omega)⟩
                  rw [HXE.out]
                  go_wp2_with fail
                  go_ret
                  refine ⟨_, _, _, HRE.out, rfl, ⟨⟨A2, cp - (1 + s).toNat, ?_, ?_, ?_⟩, hg⟩, (FrS.refl (fun k => k = g) w).set (p := ⟨g, 0, none⟩) (fun _ => rfl) _⟩
                  · rw [HDL.out]; exact blk_set HBB.out 0 _
                  · rw [HDL.out]; exact HCP.out
                  · rw [HDL.out]; exact HC2.out
  · have t1 : (e == 0) = false := by simpa using he
    have t2 : (e != 0) = true := by simpa using he
    have HE := Aside0.mk he
    clear he
    cases bs with
    | nil =>
      have HF := Aside0.mk (fail_calls w0 w g [] e 11 HT.out)
      go_enter Try.func95, Try.ntmps95
      go_wp2_with fail
      refine HF.out.mono ?_
      rintro e' w2 ⟨rfl, hT, hF⟩
      rw [orE_n HE.out] at hT
      have HT2 := Aside0.mk hT
      obtain ⟨⟨A2, cp2, hb2, hc2, hC2⟩, _⟩ := hT
      have d1 : w2.cell? ⟨g, 1, none⟩ = some (.int .i64 e) := (blk_cell hb2 1).trans rfl
      have HF2 := Aside0.mk hF
      clear hb2 hC2 hF c0 c1 f0
      go_wp2_with fail
      go_ret
      exact ⟨0, [], e, by unfold numS; rw [if_neg HE.out], rfl, HT2.out, HF2.out⟩
    | cons s r =>
      have hl : ((s :: r).length : Int) ≠ 0 := by simp only [List.length_cons]; omega
      have hl2 : (((s :: r).length : Int) == 0) = false := by simpa using hl
      clear hl
      generalize (s :: r).length = n at c0 hl2 hmax
      go_enter Try.func95, Try.ntmps95
      go_wp2_with fail
      go_ret
      exact ⟨0, s :: r, e, by unfold numS; rw [if_neg HE.out], rfl, HT.out, FrS.refl _ _⟩
end Go.Proofs.Ytnkpleggmiamdaa.Mo
