/- Kept of the text WvB: what is reached (wip/tools/prune.py). -/
import Derived.Test.YtkeadpichlgagaaVWvA
namespace Go.Proofs.Ytkeadpichlgagaa.Wv
open Go.RowKit Go.Maps Go.Proofs.YtkeadpichlgagaaW.PrintWords Go.Proofs.YtkeadpichlgagaaW.PrintLast Go.Proofs.YtkeadpichlgagaaW.PrintMore
open Go.Proofs.Ytkeadpichlgagaa.PWaveReady Go.Proofs.Ytkeadpichlgagaa.Mp
set_option linter.unusedVariables false
set_option linter.unusedSimpArgs false
set_option linter.unnecessarySimpa false
structure QIs (w : World) (B ab : Nat) (v : Value) (xs : Q) : Prop where
  blk : w.heap[ab]? = some (.cells #[v] 132 (0, 0))
  row : QR w B v xs
def qif (ab : Nat) : Value := .iface 134 (.pointer (some ⟨ab, 0, none⟩))
theorem QIs.form {w : World} {B ab : Nat} {v : Value} {xs : Q} (h : QIs w B ab v xs) (hp : 0 < xs.length) : ∃ gb c, v = .slice (some ⟨gb, 0, none⟩) xs.length c ∧ gb ≠ ab := by
  obtain ⟨gb, c, rfl, _, _, cells, hc⟩ := Kd.R_form h.row hp
  refine ⟨gb, c, rfl, ?_⟩
  rintro rfl
  have := hc.symm.trans h.blk
  injection this with this
  injection this with _ h2
  cases h2
theorem QIs.cell {w : World} {B ab : Nat} {v : Value} {xs : Q} (h : QIs w B ab v xs) : w.cell? ⟨ab, 0, none⟩ = some v := (blk_cell h.blk 0).trans rfl
theorem QIs.below {w w1 : World} {B ab : Nat} {v : Value} {xs : Q} (h : QIs w B ab v xs) (hb : Below w.heap.size w w1) : QIs w1 B ab v xs := ⟨blk_below h.blk hb, Kd.R_below h.row hb⟩
theorem QIs.C {w : World} {B ab gb n c : Nat} {xs : Q} (h : QIs w B ab (.slice (some ⟨gb, 0, none⟩) n c) xs) : (Kd.int .i64).C w (some ⟨gb, 0, none⟩) n xs ∧ n = xs.length ∧ n ≤ 9223372036854775807 := by
  obtain ⟨hn, _, hC⟩ := Kd.R_reads' h.row
  subst hn
  exact ⟨hC, rfl, hC.2.1⟩
theorem up_succ (f : Nat) (xs : Q) (j : Nat) : up (f + 1) xs j = if par j = j then xs else if lt (g xs j) (g xs (par j)) then up f (sw xs (par j) j) (par j) else xs := rfl
set_option maxRecDepth 100000 in
theorem hup_calls (B ab : Nat) (v : Value) (xs : Q) (j : Nat) (w : World) (h : QIs w B ab v xs) (hj : j < xs.length) :
    Calls Try.prog 128 #[qif ab, .int .i64 j] w fun e w' => e = .returned (.tuple #[]) ∧ QIs w' B ab v (up j xs j) ∧ FrS (fun k => v.ownBlock = some k) w w' := by
  obtain ⟨gb, c, rfl, hne⟩ := h.form (by omega)
  have hmax := h.C.2.2
  unfold qif
  have H := Aside0.mk h
  clear h
  go_enter Try.func128, Try.ntmps128
  go_wp2_with fail
  go_loopg [1] j (fun k v1 wr => ∃ (ys : Q) (i : Nat), v1 = .int .i64 i ∧ i ≤ k ∧ i < xs.length ∧ Aside0 (ys.length = xs.length) ∧ Aside0 (up k ys i = up j xs j) ∧ Aside0 (QIs wr B ab (.slice (some ⟨gb, 0, none⟩) xs.length c) ys) ∧ Aside0 (FrS (fun k => k = gb) w wr))
  case atStart => exact ⟨xs, j, rfl, Nat.le_refl _, hj, ⟨rfl⟩, ⟨rfl⟩, H, ⟨FrS.refl _ _⟩⟩
  case round =>
    obtain ⟨ys, i, rfl, hik, hi, HL, HU, HI, HF⟩ := hrel
    by_cases hp : i = 0
    · subst hp
      go_wp2_with fail
      go_end0
      have e : up gk ys 0 = ys := by cases gk <;> simp [up, par]
      have hu := HU.out
      rw [e] at hu
      exact ⟨rfl, by rw [← hu]; exact HI.out, HF.out.mono (fun k _ e => by subst e; rfl)⟩
    · have hpi : ((i : Int) - 1) / 2 = ((par i : Nat) : Int) := by unfold par; omega
      have hlt := par_lt (k := i) (by omega)
      have hpb : (((par i : Nat) : Int) == (i : Int)) = false := by simp; omega
      have hm := mLess ⟨ab, 0, none⟩ _ wr HI.out.cell
      have hcf := cf186
      go_wp2_with fail
      refine (qless_calls (some ⟨gb, 0, none⟩) xs.length c ys i (par i) wr HI.out.C.1 (by omega) (by omega)).mono ?_
      rintro e w2 ⟨rfl, m, rfl⟩
      clear hm hcf
      replace HI := Aside0.mk (HI.out.below (pw_below_drewN (Below.refl _ _) m))
      replace HF := Aside0.mk (HF.out.drewN m)
      generalize wr.drewN m = w2 at HI HF ⊢
      obtain ⟨gk', rfl⟩ : ∃ g', gk = g' + 1 := ⟨gk - 1, by omega⟩
      by_cases hl : lt (g ys i) (g ys (par i))
      · have hb : decide (lt (g ys i) (g ys (par i))) = true := decide_eq_true hl
        have hm := mSwap ⟨ab, 0, none⟩ _ w2 HI.out.cell
        have hcf := cf187
        have HLT := Aside0.mk hl
        clear hl
        go_wp2_with fail
        refine (qswap_calls B gb xs.length c ys (par i) i w2 HI.out.row (by omega) (by omega)).mono ?_
        rintro e w3 ⟨rfl, hR, hF⟩
        have HI3 : Aside0 (QIs w3 B ab (.slice (some ⟨gb, 0, none⟩) xs.length c) (sw ys (par i) i)) := ⟨hF.blk HI.out.blk (Ne.symm hne), hR⟩
        have HF3 := Aside0.mk (HF.out.trans hF)
        have HU3 : Aside0 (up gk' (sw ys (par i) i) (par i) = up j xs j) := ⟨by
          have hu := HU.out
          rw [up_succ] at hu
          rwa [if_neg (by omega), if_pos HLT.out] at hu⟩
        clear hR hF HI HF hm hcf
        go_wp2_with fail
        go_roundg gk'
        case measure => omega
        case rel => exact ⟨_, par i, rfl, by omega, by omega, ⟨by rw [sw_length]; exact HL.out⟩, HU3, HI3, HF3⟩
      · have hb : decide (lt (g ys i) (g ys (par i))) = false := decide_eq_false hl
        have hu := HU.out
        rw [up_succ] at hu
        rw [if_neg (by omega), if_neg hl] at hu
        have HU3 := Aside0.mk hu
        clear hu hl
        go_wp2_with fail
        go_end0
        exact ⟨rfl, by rw [← HU3.out]; exact HI.out, HF.out.mono (fun k _ e => by subst e; rfl)⟩
theorem dn_succ (f : Nat) (xs : Q) (i n : Nat) : dn (f + 1) xs i n = if 2 * i + 1 < n then
      (if lt (g xs (if 2 * i + 2 < n ∧ lt (g xs (2 * i + 2)) (g xs (2 * i + 1)) then 2 * i + 2 else 2 * i + 1)) (g xs i) then dn f (sw xs i (if 2 * i + 2 < n ∧ lt (g xs (2 * i + 2)) (g xs (2 * i + 1)) then 2 * i + 2 else 2 * i + 1)) (if 2 * i + 2 < n ∧ lt (g xs (2 * i + 2)) (g xs (2 * i + 1)) then 2 * i + 2 else 2 * i + 1) n else (xs, i))
    else (xs, i) := rfl
set_option maxHeartbeats 1000000 in
set_option maxRecDepth 100000 in
theorem hdown_calls (B ab : Nat) (v : Value) (xs : Q) (i0 n : Nat) (w : World) (h : QIs w B ab v xs) (hi0 : i0 < xs.length) (hn : n ≤ xs.length) (hmx : xs.length ≤ 1000000) :
    Calls Try.prog 127 #[qif ab, .int .i64 i0, .int .i64 n] w fun e w' => e = .returned (.bool (decide (i0 < (dn n xs i0 n).2))) ∧ QIs w' B ab v (dn n xs i0 n).1 ∧ FrS (fun k => v.ownBlock = some k) w w' := by
  obtain ⟨gb, c, rfl, hne⟩ := h.form (by omega)
  unfold qif
  have H := Aside0.mk h
  clear h
  go_enter Try.func127, Try.ntmps127
  go_wp2_with fail
  go_loopg [7] n (fun k v7 wr => ∃ (ys : Q) (i : Nat), v7 = .int .i64 i ∧ n ≤ k + i ∧ i < xs.length ∧ Aside0 (ys.length = xs.length) ∧ Aside0 (dn k ys i n = dn n xs i0 n) ∧ Aside0 (QIs wr B ab (.slice (some ⟨gb, 0, none⟩) xs.length c) ys) ∧ Aside0 (FrS (fun k => k = gb) w wr))
  case atStart => exact ⟨xs, i0, rfl, by omega, hi0, ⟨rfl⟩, ⟨rfl⟩, H, ⟨FrS.refl _ _⟩⟩
  case round =>
    obtain ⟨ys, i, rfl, hik, hi, HL, HD, HI, HF⟩ := hrel
    by_cases h1 : 2 * i + 1 < n
    · obtain ⟨gk', rfl⟩ : ∃ g', gk = g' + 1 := ⟨gk - 1, by omega⟩
      obtain ⟨j1, he1, ha1, hb1⟩ : ∃ j1 : Nat, 2 * (i : Int) + 1 = (j1 : Int) ∧ j1 ≤ 2 * i + 1 ∧ 2 * i + 1 ≤ j1 := ⟨2 * i + 1, by omega, by omega, by omega⟩
      obtain ⟨j2, he2, ha2, hb2⟩ : ∃ j2 : Nat, (j1 : Int) + 1 = (j2 : Int) ∧ j2 ≤ 2 * i + 2 ∧ 2 * i + 2 ≤ j2 := ⟨2 * i + 2, by omega, by omega, by omega⟩
      by_cases h2 : 2 * i + 2 < n
      · have hm := mLess ⟨ab, 0, none⟩ _ wr HI.out.cell
        have hcf := cf186
        go_wp2_with fail
        refine (qless_calls (some ⟨gb, 0, none⟩) xs.length c ys j2 j1 wr HI.out.C.1 (by omega) (by omega)).mono ?_
        rintro e wz ⟨rfl, m, rfl⟩
        clear hm hcf
        replace HI := Aside0.mk (HI.out.below (pw_below_drewN (Below.refl _ _) m))
        replace HF := Aside0.mk (HF.out.drewN m)
        generalize wr.drewN m = wX at HI HF ⊢
        by_cases hl2 : lt (g ys j2) (g ys j1)
        · have hbb : decide (lt (g ys j2) (g ys j1)) = true := decide_eq_true hl2
          have HC : Aside0 (2 * i + 2 < n ∧ lt (g ys (2 * i + 2)) (g ys (2 * i + 1))) := ⟨h2, by rw [show 2 * i + 2 = j2 by omega, show 2 * i + 1 = j1 by omega]; exact hl2⟩
          clear hl2
          have hm := mLess ⟨ab, 0, none⟩ _ wX HI.out.cell
          have hcf := cf186
          go_wp2_with fail
          refine (qless_calls (some ⟨gb, 0, none⟩) xs.length c ys j2 i wX HI.out.C.1 (by omega) (by omega)).mono ?_
          rintro e w2 ⟨rfl, m2, rfl⟩
          clear hm hcf
          replace HI := Aside0.mk (HI.out.below (pw_below_drewN (Below.refl _ _) m2))
          replace HF := Aside0.mk (HF.out.drewN m2)
          generalize wX.drewN m2 = w2 at HI HF ⊢
          by_cases hl : lt (g ys j2) (g ys i)
          · have hb : decide (lt (g ys j2) (g ys i)) = true := decide_eq_true hl
            have hm := mSwap ⟨ab, 0, none⟩ _ w2 HI.out.cell
            have hcf := cf187
            have HD3 : Aside0 (dn gk' (sw ys i j2) j2 n = dn n xs i0 n) := ⟨by
              have e : 2 * i + 2 = j2 := by omega
              have hd := HD.out
              rw [dn_succ, if_pos h1, if_pos HC.out, e, if_pos hl] at hd
              exact hd⟩
            clear hl
            go_wp2_with fail
            refine (qswap_calls B gb xs.length c ys i j2 w2 HI.out.row (by omega) (by omega)).mono ?_
            rintro e w3 ⟨rfl, hR, hF⟩
            have HI3 : Aside0 (QIs w3 B ab (.slice (some ⟨gb, 0, none⟩) xs.length c) (sw ys i j2)) := ⟨hF.blk HI.out.blk (Ne.symm hne), hR⟩
            have HF3 := Aside0.mk (HF.out.trans hF)
            clear hR hF HI HF hm hcf
            go_wp2_with fail
            go_roundg gk'
            case measure => omega
            case rel => exact ⟨_, j2, rfl, by omega, by omega, ⟨by rw [sw_length]; exact HL.out⟩, HD3, HI3, HF3⟩
          · have hb : decide (lt (g ys j2) (g ys i)) = false := decide_eq_false hl
            have HD3 : Aside0 ((ys, i) = dn n xs i0 n) := ⟨by
              have e : 2 * i + 2 = j2 := by omega
              have hd := HD.out
              rw [dn_succ, if_pos h1, if_pos HC.out, e, if_neg hl] at hd
              exact hd⟩
            clear hl
            go_wp2_with fail
            go_ret
            rw [← HD3.out]
            exact ⟨by simp, HI.out, HF.out.mono (fun k _ e => by subst e; rfl)⟩
        · have hbb : decide (lt (g ys j2) (g ys j1)) = false := decide_eq_false hl2
          have HC : Aside0 (¬ (2 * i + 2 < n ∧ lt (g ys (2 * i + 2)) (g ys (2 * i + 1)))) := ⟨by rw [show 2 * i + 2 = j2 by omega, show 2 * i + 1 = j1 by omega]; exact fun h => hl2 h.2⟩
          clear hl2
          have hm := mLess ⟨ab, 0, none⟩ _ wX HI.out.cell
          have hcf := cf186
          go_wp2_with fail
          refine (qless_calls (some ⟨gb, 0, none⟩) xs.length c ys j1 i wX HI.out.C.1 (by omega) (by omega)).mono ?_
          rintro e w2 ⟨rfl, m2, rfl⟩
          clear hm hcf
          replace HI := Aside0.mk (HI.out.below (pw_below_drewN (Below.refl _ _) m2))
          replace HF := Aside0.mk (HF.out.drewN m2)
          generalize wX.drewN m2 = w2 at HI HF ⊢
          by_cases hl : lt (g ys j1) (g ys i)
          · have hb : decide (lt (g ys j1) (g ys i)) = true := decide_eq_true hl
            have hm := mSwap ⟨ab, 0, none⟩ _ w2 HI.out.cell
            have hcf := cf187
            have HD3 : Aside0 (dn gk' (sw ys i j1) j1 n = dn n xs i0 n) := ⟨by
              have e : 2 * i + 1 = j1 := by omega
              have hd := HD.out
              rw [dn_succ, if_pos h1, if_neg HC.out, e, if_pos hl] at hd
              exact hd⟩
            clear hl
            go_wp2_with fail
            refine (qswap_calls B gb xs.length c ys i j1 w2 HI.out.row (by omega) (by omega)).mono ?_
            rintro e w3 ⟨rfl, hR, hF⟩
            have HI3 : Aside0 (QIs w3 B ab (.slice (some ⟨gb, 0, none⟩) xs.length c) (sw ys i j1)) := ⟨hF.blk HI.out.blk (Ne.symm hne), hR⟩
            have HF3 := Aside0.mk (HF.out.trans hF)
            clear hR hF HI HF hm hcf
            go_wp2_with fail
            go_roundg gk'
            case measure => omega
            case rel => exact ⟨_, j1, rfl, by omega, by omega, ⟨by rw [sw_length]; exact HL.out⟩, HD3, HI3, HF3⟩
          · have hb : decide (lt (g ys j1) (g ys i)) = false := decide_eq_false hl
            have HD3 : Aside0 ((ys, i) = dn n xs i0 n) := ⟨by
              have e : 2 * i + 1 = j1 := by omega
              have hd := HD.out
              rw [dn_succ, if_pos h1, if_neg HC.out, e, if_neg hl] at hd
              exact hd⟩
            clear hl
            go_wp2_with fail
            go_ret
            rw [← HD3.out]
            exact ⟨by simp, HI.out, HF.out.mono (fun k _ e => by subst e; rfl)⟩
      · have HC : Aside0 (¬ (2 * i + 2 < n ∧ lt (g ys (2 * i + 2)) (g ys (2 * i + 1)))) := ⟨fun h => h2 h.1⟩
        have hm := mLess ⟨ab, 0, none⟩ _ wr HI.out.cell
        have hcf := cf186
        go_wp2_with fail
        refine (qless_calls (some ⟨gb, 0, none⟩) xs.length c ys j1 i wr HI.out.C.1 (by omega) (by omega)).mono ?_
        rintro e w2 ⟨rfl, m2, rfl⟩
        clear hm hcf
        replace HI := Aside0.mk (HI.out.below (pw_below_drewN (Below.refl _ _) m2))
        replace HF := Aside0.mk (HF.out.drewN m2)
        generalize wr.drewN m2 = w2 at HI HF ⊢
        by_cases hl : lt (g ys j1) (g ys i)
        · have hb : decide (lt (g ys j1) (g ys i)) = true := decide_eq_true hl
          have hm := mSwap ⟨ab, 0, none⟩ _ w2 HI.out.cell
          have hcf := cf187
          have HD3 : Aside0 (dn gk' (sw ys i j1) j1 n = dn n xs i0 n) := ⟨by
            have e : 2 * i + 1 = j1 := by omega
            have hd := HD.out
            rw [dn_succ, if_pos h1, if_neg HC.out, e, if_pos hl] at hd
            exact hd⟩
          clear hl
          go_wp2_with fail
          refine (qswap_calls B gb xs.length c ys i j1 w2 HI.out.row (by omega) (by omega)).mono ?_
          rintro e w3 ⟨rfl, hR, hF⟩
          have HI3 : Aside0 (QIs w3 B ab (.slice (some ⟨gb, 0, none⟩) xs.length c) (sw ys i j1)) := ⟨hF.blk HI.out.blk (Ne.symm hne), hR⟩
          have HF3 := Aside0.mk (HF.out.trans hF)
          clear hR hF HI HF hm hcf
          go_wp2_with fail
          go_roundg gk'
          case measure => omega
          case rel => exact ⟨_, j1, rfl, by omega, by omega, ⟨by rw [sw_length]; exact HL.out⟩, HD3, HI3, HF3⟩
        · have hb : decide (lt (g ys j1) (g ys i)) = false := decide_eq_false hl
          have HD3 : Aside0 ((ys, i) = dn n xs i0 n) := ⟨by
            have e : 2 * i + 1 = j1 := by omega
            have hd := HD.out
            rw [dn_succ, if_pos h1, if_neg HC.out, e, if_neg hl] at hd
            exact hd⟩
          clear hl
          go_wp2_with fail
          go_ret
          rw [← HD3.out]
          exact ⟨by simp, HI.out, HF.out.mono (fun k _ e => by subst e; rfl)⟩
    · have e : dn gk ys i n = (ys, i) := by cases gk <;> simp [dn, h1]
      have HD3 : Aside0 ((ys, i) = dn n xs i0 n) := ⟨by rw [← HD.out, e]⟩
      go_wp2_with fail
      go_ret
      rw [← HD3.out]
      exact ⟨by simp, HI.out, HF.out.mono (fun k _ e => by subst e; rfl)⟩
end Go.Proofs.Ytkeadpichlgagaa.Wv
