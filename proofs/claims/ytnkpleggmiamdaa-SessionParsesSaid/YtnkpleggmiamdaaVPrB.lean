/- Kept of the text PrB: what is reached (wip/tools/prune.py). -/
import Derived.Test.YtnkpleggmiamdaaVMrA
import Derived.Test.YtnkpleggmiamdaaVPrC
import Derived.Test.YtnkpleggmiamdaaVMq3
namespace Go.Proofs.Ytnkpleggmiamdaa.Mo
open Go.RowKit Go.Maps Go.Proofs.YtnkpleggmiamdaaW.PrintWords Go.Proofs.YtnkpleggmiamdaaW.PrintLast Go.Proofs.YtnkpleggmiamdaaW.PrintMore
open Go.Proofs.Ytnkpleggmiamdaa.PSessionParses
set_option linter.unusedVariables false
set_option linter.unusedSimpArgs false
theorem w_succ {i : Nat} (h : i ≤ 1000) : wrap64 ((i : Int) + 1) = ((i + 1 : Nat) : Int) := by unfold wrap64; omega
theorem get_of_drop {α : Type} {l : List α} {i : Nat} {c : α} {s : List α} (h : i < l.length) (e : l.drop i = c :: s) : l[i] = c := by
  rw [List.drop_eq_getElem_cons h] at e
  exact (List.cons.inj e).1
theorem str_dt (l : List UInt8) : (str l).data.toList = l := by simp [str]
theorem str_ext (l : List UInt8) (i j : Nat) : (str l).extract i j = str ((l.take j).drop i) := by
  apply ByteArray.ext
  rw [ByteArray.data_extract]
  apply Array.toList_inj.1
  simp [str, Array.toList_extract, List.extract_eq_take_drop, List.drop_take]
theorem str_bt (l : List UInt8) {i : Nat} (h : i < l.length) : bt (str l) (i : Int) = (l[i].toNat : Int) := by
  have := bt_l (str l) (i := i) (by rw [str_dt]; exact h)
  rw [this]
  simp only [str_dt]
theorem bt_0 (c : UInt8) (s : List UInt8) : bt (str (c :: s)) 0 = (c.toNat : Int) := str_bt (c :: s) (i := 0) (by simp)
def strs (ks : List Sh) : List ByteArray := ks.map fun k => str (ren k)
theorem rows_l0 (l : List UInt8) (hl : l.length ≤ 1000) : ∀ (ks : List Sh) (i : Nat) (out : List ByteArray), (∀ k ∈ ks, Gd k) → depL ks ≤ 9 → l.drop i = renL ks ++ [93] → out.length ≤ i → Ev (fun k => echelonref01_rows.l0 k (str l) out (i : Int)) (out ++ strs ks)
  | [], i, out, hg, hd, he, ho => by
    rw [renL_nil, List.nil_append] at he
    have hlen := congrArg List.length he
    simp only [List.length_drop, List.length_cons, List.length_nil] at hlen
    have hi : i < l.length := by omega
    have hc : l[i] = 93 := get_of_drop hi he
    refine Ev.step (f := fun k => some out) (fun k => ?_) (by simpa [strs] using Ev.now _)
    conv => lhs; unfold echelonref01_rows.l0
    rw [if_pos (by omega), if_pos (by rw [str_size]; omega), str_bt l hi, hc, if_pos (by decide)]
  | k :: ks, i, out, hg, hd, he, ho => by
    rw [renL_cons, List.append_assoc] at he
    rw [depL_cons] at hd
    have gk := hg k (by simp)
    have hlen := congrArg List.length he
    simp only [List.length_drop, List.length_append, List.length_cons, List.length_nil] at hlen
    have hi : i < l.length := by omega
    obtain ⟨c, s, e1, hc⟩ := ren_head gk
    have hci : l[i] = c := get_of_drop hi (by rw [he, e1]; rfl)
    have hc93 : ¬ (c.toNat : Int) = 93 := by rcases hc with rfl | rfl | rfl | rfl <;> decide
    have hpt := ren_pt k (2 * l.length + 1) 0 (renL ks ++ [93]) gk (by omega) (by simp only [List.length_append, List.length_cons, List.length_nil]; omega)
    have hE := (end_val (str l) (by rw [str_size]; omega) (2 * l.length + 1)).1 i 0 (by rw [str_size]; omega) (by rw [str_size]; omega) (by omega)
    rw [str_dt, he, hpt, str_size] at hE
    have ep : plc l.length (some (k, renL ks ++ [93])) = ((i + (ren k).length : Nat) : Int) := by
      simp only [plc, List.length_append, List.length_cons, List.length_nil]
      omega
    rw [ep] at hE
    have hx : (l.take (i + (ren k).length)).drop i = ren k := by
      rw [List.drop_take, he, Nat.add_sub_cancel_left, List.take_left]
    have hdr : l.drop (i + (ren k).length) = renL ks ++ [93] := by
      rw [← List.drop_drop, he, List.drop_left]
    have ih := rows_l0 l hl ks (i + (ren k).length) (out ++ [str (ren k)]) (fun z hz => hg z (by simp [hz])) (by omega) hdr (by have := ren_pos gk; simp; omega)
    have eo : out ++ strs (k :: ks) = (out ++ [str (ren k)]) ++ strs ks := by simp [strs]
    rw [eo]
    refine Ev.step (f := fun n => (echelonref01_end.f n (str l) (i : Int) 0).bind fun t188 => (if (i : Int) ≤ t188 then (if t188 ≤ ((str l).size : Int) then (if out.length < 8796093022208 then (echelonref01_rows.l0 n (str l) (out ++ [(str l).extract ((i : Int)).toNat (t188 : Int).toNat]) t188) else (none)) else (none)) else (none))) (fun n => ?_) ?_
    · conv => lhs; unfold echelonref01_rows.l0
      rw [if_pos (by omega), if_pos (by rw [str_size]; omega), str_bt l hi, hci, if_neg hc93]
    · refine Ev.bind hE ?_
      simp only [str_size]
      simp only [show ((i : Int) ≤ ((i + (ren k).length : Nat) : Int)) = True from eq_true (by omega), show (((i + (ren k).length : Nat) : Int) ≤ (l.length : Int)) = True from eq_true (by omega), show (out.length < 8796093022208) = True from eq_true (by omega), if_true, Int.toNat_natCast, str_ext, hx]
      exact ih
theorem rows_val {ks : List Sh} (hg : ∀ k ∈ ks, Gd k) (hd : depL ks ≤ 9) (hl : (ren (.mk 91 ks)).length ≤ 1000) : Ev (fun k => echelonref01_rows.f k (str (ren (.mk 91 ks)))) (strs ks) := by
  have h := rows_l0 (ren (.mk 91 ks)) hl ks 1 [] hg hd (by rw [ren_row]; rfl) (by simp)
  exact h
theorem rd_strs {ks : List Sh} {i : Nat} (h : i < ks.length) : rdOf ByteArray.empty (strs ks) (i : Int) = str (ren ks[i]) := by
  simp [rdOf, strs, h]
theorem strs_len (ks : List Sh) : (strs ks).length = ks.length := by simp [strs]
theorem some_l0 (ks : List Sh) (hl : ks.length ≤ 1000) (ih : ∀ k ∈ ks, Ev (fun n => echelonref01_Some.f n (str (ren k))) (someS k)) : ∀ (d i : Nat), i + d = ks.length → Ev (fun n => echelonref01_Some.l0 n (strs ks) (i : Int)) ((ks.drop i).any someS)
  | 0, i, h => by
    refine Ev.step (f := fun n => some false) (fun n => ?_) ?_
    · conv => lhs; unfold echelonref01_Some.l0
      rw [if_neg (by rw [strs_len]; omega)]
    · rw [List.drop_of_length_le (by omega)]
      exact Ev.now _
  | d + 1, i, h => by
    have hi : i < ks.length := by omega
    have h1 := some_l0 ks hl ih d (i + 1) (by omega)
    rw [List.drop_eq_getElem_cons hi, List.any_cons]
    refine Ev.step (f := fun n => (echelonref01_Some.f n (str (ren ks[i]))).bind fun t196 => (if t196 = true then (some true) else (echelonref01_Some.l0 n (strs ks) ((i + 1 : Nat) : Int)))) (fun n => ?_) ?_
    · conv => lhs; unfold echelonref01_Some.l0
      rw [if_pos (by rw [strs_len]; omega), if_pos (by omega), rd_strs hi, w_succ (by omega)]
    · refine Ev.bind (ih _ (List.getElem_mem hi)) ?_
      cases someS ks[i] with
      | true => simp only [if_true, Bool.true_or]; exact Ev.now _
      | false => simp only [Bool.false_eq_true, if_false, Bool.false_or]; exact h1
theorem rowlen {ks : List Sh} (hg : ∀ k ∈ ks, Gd k) {n : Nat} (hl : (ren (.mk 91 ks)).length ≤ n) : ks.length ≤ n ∧ ∀ k ∈ ks, (ren k).length ≤ n := by
  have h := renL_len hg
  rw [ren_row] at hl
  simp only [List.length_cons, List.length_append, List.length_nil] at hl
  exact ⟨by omega, fun k hk => by have := h.2 k hk; omega⟩
theorem some_val : ∀ (k : Sh), Gd k → dep k ≤ 9 → (ren k).length ≤ 1000 → Ev (fun n => echelonref01_Some.f n (str (ren k))) (someS k)
  | .mk c ks, hg, hd, hl => by
    have hnr : ∀ (x : UInt8) (s : List UInt8), ren (.mk c ks) = x :: s → x ≠ 91 → someS (.mk c ks) = true → Ev (fun n => echelonref01_Some.f n (str (ren (.mk c ks)))) (someS (.mk c ks)) := fun x s e hx hs => by
      rw [e, hs]
      refine Ev.step (f := fun n => some true) (fun n => ?_) (Ev.now _)
      conv => lhs; unfold echelonref01_Some.f
      rw [if_pos (by rw [str_size]; simp), bt_0, if_neg (show ¬ ((x.toNat : Int) = 91) from byte_ne (d := 91) hx)]
    cases hg with
    | num => exact hnr _ _ ren_num (by decide) (by rw [some_eq, if_neg (by decide)])
    | byt => exact hnr _ _ ren_byt (by decide) (by rw [some_eq, if_neg (by decide)])
    | lst h => exact hnr _ _ (ren_lst _) (by decide) (by rw [some_eq, if_neg (by decide)])
    | row h =>
      rw [dep_eq] at hd
      obtain ⟨hl1, hl2⟩ := rowlen h hl
      have hr := rows_val h hd hl
      have hs := some_l0 ks hl1 (fun k hk => some_val k (h k hk) (by have := dep_mem hk; omega) (hl2 k hk)) ks.length 0 (by omega)
      rw [some_eq, if_pos rfl, someL_any]
      refine Ev.step (f := fun n => (echelonref01_rows.f n (str (ren (.mk 91 ks)))).bind fun t192 => (echelonref01_Some.l0 n t192 0)) (fun n => ?_) (Ev.bind hr hs)
      conv => lhs; unfold echelonref01_Some.f
      rw [ren_row, if_pos (by rw [str_size, List.length_cons]; omega), bt_0, if_pos (by decide)]
theorem rd_drop {b : List Int} {i : Nat} (h : i < b.length) : rd b (i : Int) = b[i] := by simp [rd, h]
theorem be_small {i : Nat} (h : i ≤ 7) {x : Int} (hx : 0 ≤ x ∧ x < 256 ^ i) : 0 ≤ x ∧ x < 72057594037927936 := by
  refine ⟨hx.1, Int.lt_of_lt_of_le hx.2 ?_⟩
  have := Nat.pow_le_pow_right (show 0 < 256 by decide) h
  have e1 : ((256 ^ i : Nat) : Int) = (256 : Int) ^ i := by simp
  rw [← e1]
  exact Int.ofNat_le.2 this
theorem num_step (b : List Int) (a i s : Nat) (x : Int) (k : Nat) (h1 : i < s) (h2 : a + 1 + i < b.length) (hb : b.length ≤ 1000000) (hz : i = 0 → rd b ((a + 1 : Nat) : Int) ≠ 0) : echelonref01_number.l0 (k + 1) b (a : Int) (s : Int) x (i : Int) = echelonref01_number.l0 k b (a : Int) (s : Int) (IntKind.u64.wrap ((IntKind.u64.wrap (256 * x)) + (IntKind.u64.wrap (rd b ((a + 1 + i : Nat) : Int))))) ((i + 1 : Nat) : Int) := by
  have hw : wrap64 ((a : Int) + 1) = ((a + 1 : Nat) : Int) := by unfold wrap64; omega
  have hw2 : wrap64 (((a + 1 : Nat) : Int) + (i : Int)) = ((a + 1 + i : Nat) : Int) := by unfold wrap64; omega
  have hwi : wrap64 ((i : Int) + 1) = ((i + 1 : Nat) : Int) := by unfold wrap64; omega
  have c1 : (i : Int) < (s : Int) := by omega
  have c2 : ¬ (((a + 1 + i : Nat) : Int) ≥ (b.length : Int)) := by omega
  have c3 : (0 : Int) ≤ ((a + 1 + i : Nat) : Int) := by omega
  have c4 : ((a + 1 + i : Nat) : Int) < (b.length : Int) := by omega
  have c5 : (0 : Int) ≤ ((a + 1 : Nat) : Int) := by omega
  have c6 : ((a + 1 : Nat) : Int) < (b.length : Int) := by omega
  conv => lhs; unfold echelonref01_number.l0
  rw [if_pos c1, hw, hw2, if_neg c2]
  by_cases h0 : i = 0
  · have c7 : (i : Int) = 0 := by omega
    rw [if_pos c7, if_pos c5, if_pos c6, if_neg (hz h0), if_pos c3, if_pos c4, hwi]
  · have c7 : ¬ (i : Int) = 0 := by omega
    rw [if_neg c7, if_pos c3, if_pos c4, hwi]
theorem num_l0 (b : List Int) (hb : b.length ≤ 1000000) (hx : Byt b) (a s : Nat) (hs : s ≤ 8) (ha : a < b.length) (hz : 0 < s → ∀ h : a + 1 < b.length, b[a + 1] ≠ 0) : ∀ (d i : Nat), i + d = s → a + 1 + i ≤ b.length → Ev (fun k => echelonref01_number.l0 k b (a : Int) (s : Int) (beN ((b.drop (a + 1)).take i)) (i : Int)) (if a + 1 + s ≤ b.length then (beN ((b.drop (a + 1)).take s), ((a + 1 + s : Nat) : Int), 0) else (0, (a : Int), 11))
  | 0, i, h, hi => by
    have hw : wrap64 ((a : Int) + 1) = ((a + 1 : Nat) : Int) := by unfold wrap64; omega
    have hw2 : wrap64 (((a + 1 : Nat) : Int) + (s : Int)) = ((a + 1 + s : Nat) : Int) := by unfold wrap64; omega
    have e : i = s := by omega
    subst e
    rw [if_pos hi]
    refine Ev.step (f := fun k => _) (fun k => ?_) (Ev.now _)
    conv => lhs; unfold echelonref01_number.l0
    rw [if_neg (by omega), hw, hw2]
  | d + 1, i, h, hi => by
    have his : i < s := by omega
    have hs0 : 0 < s := by omega
    by_cases hlt : a + 1 + i < b.length
    · have hlt1 : a + 1 < b.length := by omega
      have hr := rd_drop hlt
      have hbi := hx _ (List.getElem_mem hlt)
      have hdl : i < (b.drop (a + 1)).length := by simp; omega
      have hsn : (b.drop (a + 1)).take (i + 1) = (b.drop (a + 1)).take i ++ [b[a + 1 + i]] := by
        rw [List.take_succ_eq_append_getElem hdl]
        simp
      have hbt : Byt ((b.drop (a + 1)).take i) := fun z hz => hx z (List.mem_of_mem_drop (List.mem_of_mem_take hz))
      have hbe := be_small (show i ≤ 7 by omega) (beN_lt i ((b.drop (a + 1)).take i) (by simp; omega) hbt)
      have ih := num_l0 b hb hx a s hs ha hz d (i + 1) (by omega) (by omega)
      rw [hsn, beN_snoc] at ih
      have hu : IntKind.u64.wrap ((IntKind.u64.wrap (256 * beN ((b.drop (a + 1)).take i))) + (IntKind.u64.wrap (b[a + 1 + i]))) = 256 * beN ((b.drop (a + 1)).take i) + b[a + 1 + i] := by
        rw [u64_big (n := 256 * beN ((b.drop (a + 1)).take i)) (by omega) (by omega), u64_big (n := b[a + 1 + i]) (by omega) (by omega), u64_big (by omega) (by omega)]
      refine Ev.step (f := fun k => echelonref01_number.l0 k b (a : Int) (s : Int) (256 * beN ((b.drop (a + 1)).take i) + b[a + 1 + i]) ((i + 1 : Nat) : Int)) (fun k => ?_) ih
      rw [num_step b a i s _ k his hlt hb (fun _ => by
        rw [rd_drop hlt1]
        exact hz hs0 hlt1), hr, hu]
    · have c1 : ¬ (a + 1 + s ≤ b.length) := by omega
      have c2 : (i : Int) < (s : Int) := by omega
      have c3 : ((a + 1 + i : Nat) : Int) ≥ (b.length : Int) := by omega
      have hw : wrap64 ((a : Int) + 1) = ((a + 1 : Nat) : Int) := by unfold wrap64; omega
      have hw2 : wrap64 (((a + 1 : Nat) : Int) + (i : Int)) = ((a + 1 + i : Nat) : Int) := by unfold wrap64; omega
      rw [if_neg c1]
      refine Ev.step (f := fun k => _) (fun k => ?_) (Ev.now _)
      conv => lhs; unfold echelonref01_number.l0
      rw [if_pos c2, hw, hw2, if_pos c3]
theorem rnumber_val (b : List Int) (hb : b.length ≤ 1000000) (hx : Byt b) (a : Nat) (ha : a ≤ b.length) : Ev (fun k => echelonref01_number.f k b (a : Int)) ((numS (b.drop a) 0).1, ((b.length - (numS (b.drop a) 0).2.1.length : Nat) : Int), (numS (b.drop a) 0).2.2) := by
  unfold echelonref01_number.f
  by_cases h : a < b.length
  · have hbi := hx _ (List.getElem_mem h)
    have hw : wrap64 (b[a]) = b[a] := by unfold wrap64; omega
    have hn : (((b.length : Int) ≤ (a : Int))) = False := eq_false (by omega)
    simp only [ge_iff_le, hn, if_false, show ((0 : Int) ≤ (a : Int)) = True from eq_true (by omega), show ((a : Int) < (b.length : Int)) = True from eq_true (by omega), if_true, rd_drop h, hw]
    have hd := List.drop_eq_getElem_cons h
    unfold numS
    rw [if_pos rfl, hd]
    simp only
    by_cases h8 : 8 < b[a]
    · rw [if_pos (.inl h8)]
      simp only [show (b[a] > 8) = True from eq_true h8, if_true, List.length_cons, List.length_drop]
      have e : ((b.length - (b.length - (a + 1) + 1) : Nat) : Int) = (a : Int) := by omega
      rw [e]
      exact Ev.now _
    · simp only [show (b[a] > 8) = False from eq_false h8, if_false]
      obtain ⟨s, hs⟩ : ∃ s : Nat, b[a] = (s : Int) := ⟨b[a].toNat, by omega⟩
      rw [hs]
      by_cases h13 : 0 < s ∧ ∃ h1 : a + 1 < b.length, b[a + 1] = 0
      · obtain ⟨h0, h1, h2⟩ := h13
        rw [if_pos (.inr ⟨by omega, by simp; omega, by simp [h1, h2]⟩)]
        simp only [List.length_cons, List.length_drop]
        have e : ((b.length - (b.length - (a + 1) + 1) : Nat) : Int) = (a : Int) := by omega
        rw [e]
        refine Ev.step (f := fun k => some (0, (a : Int), 13)) (fun k => ?_) (Ev.now _)
        have hw1 : wrap64 ((a : Int) + 1) = ((a + 1 : Nat) : Int) := by unfold wrap64; omega
        have hw2 : wrap64 (((a + 1 : Nat) : Int) + 0) = ((a + 1 : Nat) : Int) := by unfold wrap64; omega
        conv => lhs; unfold echelonref01_number.l0
        rw [if_pos (by omega), hw1, hw2, if_neg (by omega), if_pos rfl, if_pos (by omega), if_pos (by omega), rd_drop h1, if_pos h2]
      · have hz : 0 < s → ∀ h : a + 1 < b.length, b[a + 1] ≠ 0 := fun h0 h1 h2 => h13 ⟨h0, h1, h2⟩
        have hv := num_l0 b hb hx a s (by omega) h hz s 0 (by omega) (by omega)
        simp only [List.take_zero] at hv
        rw [if_neg (by
          rintro (h1 | ⟨h1, h2, h3⟩)
          · omega
          · simp only [List.length_drop] at h2
            have h4 : a + 1 < b.length := by omega
            exact hz (by omega) h4 (by simpa [h4] using h3))]
        simp only [List.length_drop]
        by_cases hl : a + 1 + s ≤ b.length
        · rw [if_pos hl] at hv
          rw [if_neg (by omega)]
          simp only [Int.toNat_natCast, List.length_drop]
          have e : ((b.length - (b.length - (a + 1) - s) : Nat) : Int) = ((a + 1 + s : Nat) : Int) := by omega
          rw [e]
          exact hv
        · rw [if_neg hl] at hv
          rw [if_pos (by omega)]
          simp only [List.length_cons, List.length_drop]
          have e : ((b.length - (b.length - (a + 1) + 1) : Nat) : Int) = (a : Int) := by omega
          rw [e]
          exact hv
  · have e : a = b.length := by omega
    subst e
    have hn : (((b.length : Int) ≤ (b.length : Int))) = True := eq_true (by omega)
    simp only [ge_iff_le, hn, if_true, List.drop_length]
    unfold numS
    simp only [if_true, List.length_nil, Nat.sub_zero]
    exact Ev.now _
end Go.Proofs.Ytnkpleggmiamdaa.Mo
