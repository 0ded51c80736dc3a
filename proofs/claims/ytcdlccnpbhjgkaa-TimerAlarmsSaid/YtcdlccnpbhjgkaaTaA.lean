/- timer: Clear, At, Next, Len of alarms, against the sorted list of them. -/
import Derived.Test.YtcdlccnpbhjgkaaTiH
namespace Go.Proofs.Ytcdlccnpbhjgkaa.Ti
open Go.RowKit Go.Maps Go.Proofs.YtcdlccnpbhjgkaaW.PrintWords Go.Proofs.YtcdlccnpbhjgkaaW.PrintLast Go.Proofs.YtcdlccnpbhjgkaaW.PrintMore
open Go.Proofs.Ytcdlccnpbhjgkaa.PTimerAlarms Go.Proofs.Ytcdlccnpbhjgkaa.Mp
set_option linter.unusedVariables false
set_option linter.unusedSimpArgs false

def atO (k : Int) (l : Q) : Option Int := (l.find? (fun a => decide (a.f1 = k))).map (·.f0)
theorem atO_none {k : Int} {l : Q} (h : k ∉ l.map (·.f1)) : atO k l = none := by
  unfold atO
  rw [List.find?_eq_none.2 (fun a ha => by
    simp only [decide_eq_true_eq]
    intro e
    exact h (e ▸ List.mem_map_of_mem ha))]
  rfl
theorem atO_some {l : Q} (h : (l.map (·.f1)).Nodup) {a : S126} (ha : a ∈ l) : atO a.f1 l = some a.f0 := by
  induction l with
  | nil => cases ha
  | cons b l ih =>
    unfold atO
    rw [List.map_cons, List.nodup_cons] at h
    rcases List.mem_cons.1 ha with rfl | ha
    · simp
    · have hne : ¬ b.f1 = a.f1 := fun e => h.1 (e ▸ List.mem_map_of_mem ha)
      rw [List.find?_cons_of_neg (by simpa using hne)]
      exact ih h.2 ha
def clrF (ks : List Int) (l : Q) : Q := ks.foldl (fun l k => without k l) l

theorem alen_calls (B ab : Nat) (bo : Option Nat) (l : Q) (w : World) (h : AlIs w B ab bo l) :
    Calls Try.prog 31 #[.pointer (some ⟨ab, 0, none⟩)] w fun e w' => e = .returned (.int .i64 l.length) ∧ w' = w := by
  obtain ⟨v, xs, _, hq, hg⟩ := h
  have hl := hg.perm.length_eq
  obtain ⟨A, c, rfl⟩ := Kd.R_slice hq.row
  have c0 := hq.cell
  rw [hl] at c0
  clear hl hq hg
  go_enter Try.func31, Try.ntmps31
  go_wp2_with fail
  go_ret
  exact ⟨rfl, rfl⟩

theorem next_calls (B ab : Nat) (bo : Option Nat) (l : Q) (w : World) (h : AlIs w B ab bo l) :
    Calls Try.prog 40 #[.pointer (some ⟨ab, 0, none⟩)] w fun e w' => e = .returned (.tuple #[.int .i64 ((l.head?.map (·.f0)).getD 0), .bool (!l.isEmpty)]) ∧ w' = w := by
  obtain ⟨v1, xs1, hv1, hQ, hG⟩ := h
  have hlen := hG.perm.length_eq
  cases l with
  | nil =>
    obtain rfl : xs1 = [] := List.length_eq_zero_iff.1 (by simpa using hlen)
    obtain ⟨A1, c1, ev⟩ := Kd.R_slice hQ.row
    subst ev
    have c0 := hQ.cell
    simp only [List.length_nil] at c0
    clear hQ hG hlen
    go_enter Try.func40, Try.ntmps40
    go_wp2_with fail
    go_ret2
    exact ⟨rfl, rfl⟩
  | cons a l2 =>
    have hhead := hG.head
    have hpos : 0 < xs1.length := by rw [hlen]; simp
    obtain ⟨gb, cc, rfl, hne⟩ := hQ.form hpos
    have c0 := hQ.cell
    obtain ⟨y0, y1, hfz⟩ := hQ.row.elem (i := 0) hpos
    rw [hhead, Nat.zero_mul] at y0
    have hb : ((xs1.length : Int) == 0) = false := beq_eq_false_iff_ne.2 (by omega)
    have hmx : xs1.length ≤ 9223372036854775807 := by
      obtain ⟨_, _, _, _, hC⟩ := Kd.R_reads hQ.row
      exact hC.2.1
    generalize xs1.length = n at c0 hb hpos hmx
    clear hQ hG hhead y1 hlen
    go_enter Try.func40, Try.ntmps40
    go_wp2_with fail
    go_ret2
    exact ⟨rfl, rfl⟩

theorem at_calls (B ab : Nat) (bo : Option Nat) (l : Q) (k : Int) (w : World) (h : AlIs w B ab bo l) :
    Calls Try.prog 41 #[.pointer (some ⟨ab, 0, none⟩), .int .i64 k] w fun e w' => e = .returned (.tuple #[.int .i64 ((atO k l).getD 0), .bool (atO k l).isSome]) ∧ Below w.heap.size w w' := by
  obtain ⟨v1, xs1, hv1, hQ, hG⟩ := h
  have HQ0 := Aside0.mk hQ
  have HG := Aside0.mk hG
  clear hQ hG hv1
  go_enter Try.func41, Try.ntmps41
  go_wp2_with fail
  refine (find_calls B ab v1 xs1 k w HQ0.out).mono ?_
  rintro e w2 ⟨rfl, hB2⟩
  have HQ := Aside0.mk (HQ0.out.below hB2)
  have HB := Aside0.mk hB2
  clear hB2
  cases hf : findL k xs1 0 with
  | some j =>
    obtain ⟨_, hj, hjk⟩ := findL_some hf
    rw [Nat.zero_add] at hj
    rw [Nat.sub_zero] at hjk
    rw [show fidx k xs1 = (j : Int) from by unfold fidx; rw [hf]]
    have HA : Aside0 (atO k l = some (g xs1 j).f0) := ⟨by
      rw [← hjk]
      exact atO_some HG.out.nd (HG.out.perm.mem_iff.1 (g_mem hj))⟩
    clear hf
    obtain ⟨gb, cc, rfl, hne⟩ := HQ.out.form (by omega)
    have c0 := HQ.out.cell
    obtain ⟨y0, y1, hfz⟩ := HQ.out.row.elem hj
    have hmx : xs1.length ≤ 9223372036854775807 := by
      obtain ⟨_, _, _, _, hC⟩ := Kd.R_reads HQ.out.row
      exact hC.2.1
    clear y1 hfz hjk hne
    generalize (g xs1 j).f0 = t at HA y0
    generalize xs1.length = n at c0 hj hmx
    go_wp2_with fail
    go_ret2
    rw [HA.out]
    exact ⟨rfl, HB.out⟩
  | none =>
    rw [show fidx k xs1 = -1 from by unfold fidx; rw [hf]]
    have hnk := findL_none hf
    have HA : Aside0 (atO k l = none) := ⟨atO_none (fun h => hnk (((HG.out.perm.map (·.f1)).mem_iff).2 h))⟩
    clear hf hnk
    go_wp2_with fail
    go_ret2
    rw [HA.out]
    exact ⟨rfl, HB.out⟩

set_option maxHeartbeats 1000000 in
set_option maxRecDepth 100000 in
theorem clear_calls (B ab : Nat) (bo : Option Nat) (l : Q) (A : Option Addr) (c : Nat) (ks : List Int) (w : World) (h : AlIs w B ab bo l) (hB : B ≤ w.heap.size) (hC : (Kd.int .i64).C w A ks.length ks) (hA : ∀ k, AtB A k → k ≠ ab ∧ bo ≠ some k ∧ k < w.heap.size) (hmx : l.length ≤ 100000) (hkx : ks.length ≤ 100000) :
    Calls Try.prog 38 #[.pointer (some ⟨ab, 0, none⟩), .slice A ks.length c] w fun e w' => e = .returned (.tuple #[]) ∧ ∃ bo', AlIs w' B ab bo' (clrF ks l) ∧ TurnB ab bo bo' w w' := by
  have H := Aside0.mk h
  have HB := Aside0.mk hB
  have HC := Aside0.mk hC
  have HA := Aside0.mk hA
  clear h hB hC hA
  go_enter Try.func38, Try.ntmps38
  go_wp2_with fail
  go_loopg [5, 6, 9] ks.length (fun kq v7 v8 v11 wr => ∃ (i : Nat) (bo1 : Option Nat) (l1 : Q), v11 = .int .i64 i ∧ i + kq = ks.length ∧ l1.length ≤ l.length ∧ Aside0 (clrF (ks.drop i) l1 = clrF ks l) ∧ Aside0 (AlIs wr B ab bo1 l1) ∧ Aside0 (TurnB ab bo bo1 w wr))
  case atStart => exact ⟨0, bo, l, rfl, by omega, by omega, ⟨rfl⟩, H, ⟨TurnB.below (Below.refl _ _)⟩⟩
  case round =>
    obtain ⟨i, bo1, l1, rfl, hi, hl1, HS, HI, HT⟩ := hrel
    by_cases hlt : i < ks.length
    · have hlt' : (i : Int) < (ks.length : Int) := by omega
      have hCr := C_move (d := Kd.int .i64) HC.out (w1 := wr) (fun b hb hlt => HT.out.1.block b hlt (fun e => by have := HA.out b hb; rcases e with e | e; exact this.1 e; exact this.2.1 e))
      obtain ⟨ad, rfl, x0⟩ := Kd.at_int hCr i (by omega) hlt'
      simp only [Int.toNat_natCast] at x0
      have HS2 : Aside0 (clrF (ks.drop (i + 1)) (without (rd ks i) l1) = clrF ks l) := ⟨by
        rw [← HS.out, List.drop_eq_getElem_cons hlt]
        have : rd ks (i : Int) = ks[i] := by simp [rd, hlt]
        rw [this]; rfl⟩
      generalize rd ks (i : Int) = k at x0 HS2
      obtain ⟨v1, xs1, hv1, hQ, hG⟩ := HI.out
      have HQ := Aside0.mk hQ
      have HG := Aside0.mk hG
      have hxl : xs1.length ≤ 100000 := by rw [hG.perm.length_eq]; omega
      have hwl : (without k l1).length ≤ l.length := Nat.le_trans (List.length_filter_le _ _) hl1
      subst hv1
      clear hQ hG HI hCr
      go_wp2_with fail
      refine (find_calls B ab v1 xs1 k wr HQ.out).mono ?_
      rintro e w2 ⟨rfl, hB2⟩
      replace HQ := Aside0.mk (HQ.out.below hB2)
      replace HT := Aside0.mk (HT.out.trans (TurnB.below hB2))
      clear hB2 x0
      cases hf : findL k xs1 0 with
      | some j =>
        obtain ⟨_, hj, hjk⟩ := findL_some hf
        rw [Nat.zero_add] at hj
        rw [Nat.sub_zero] at hjk
        rw [show fidx k xs1 = (j : Int) from by unfold fidx; rw [hf]]
        subst hjk
        clear hf
        go_wp2_with fail
        refine (hremove_calls B ab v1 xs1 j w2 HQ.out hj hxl).mono ?_
        rintro e w4 ⟨v0, rfl, v4, hQ4, hT4⟩
        have HI4 : Aside0 (AlIs w4 B ab v4.ownBlock (without (g xs1 j).f1 l1)) := ⟨_, _, rfl, hQ4, HG.out.remove hj⟩
        have HT4 : Aside0 (TurnB ab bo v4.ownBlock w w4) := ⟨HT.out.trans (TurnB.of hT4)⟩
        clear hQ4 hT4 HQ HT
        generalize (g xs1 j).f1 = k at HI4 HS2 hwl
        go_wp2_with fail
        go_roundg (gk - 1)
        case measure => omega
        case rel => exact ⟨i + 1, _, _, by go_num, by omega, hwl, HS2, HI4, HT4⟩
      | none =>
        rw [show fidx k xs1 = -1 from by unfold fidx; rw [hf]]
        have hnk := findL_none hf
        have HI4 : Aside0 (AlIs w2 B ab v1.ownBlock (without k l1)) := ⟨_, _, rfl, HQ.out, by
          rw [without_id (fun h => hnk (((HG.out.perm.map (·.f1)).mem_iff).2 h))]
          exact HG.out⟩
        clear hf hnk HQ
        go_wp2_with fail
        go_roundg (gk - 1)
        case measure => omega
        case rel => exact ⟨i + 1, _, _, by go_num, by omega, hwl, HS2, HI4, HT⟩
    · go_wp2_with fail
      go_end0
      have hs := HS.out
      rw [List.drop_of_length_le (by omega)] at hs
      exact ⟨rfl, bo1, by rw [← hs]; exact HI.out, HT.out⟩
end Go.Proofs.Ytcdlccnpbhjgkaa.Ti
