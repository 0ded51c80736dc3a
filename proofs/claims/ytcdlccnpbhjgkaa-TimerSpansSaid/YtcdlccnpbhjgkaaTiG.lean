/- timer: Due of alarms. -/
import Derived.Test.YtcdlccnpbhjgkaaTiF
namespace Go.Proofs.Ytcdlccnpbhjgkaa.Ti
open Go.RowKit Go.Maps Go.Proofs.YtcdlccnpbhjgkaaW.PrintWords Go.Proofs.YtcdlccnpbhjgkaaW.PrintLast Go.Proofs.YtcdlccnpbhjgkaaW.PrintMore
open Go.Proofs.Ytcdlccnpbhjgkaa.PTimerAlarms Go.Proofs.Ytcdlccnpbhjgkaa.Mp
set_option linter.unusedVariables false
set_option linter.unusedSimpArgs false

theorem info3 : (Try.prog.info? 3).map (fun i => (i.zero, i.size, i.bytes)) = some (some (.int .i64 0), 1, 8) := by kernel_rfl
theorem QR.tight {w : World} {B : Nat} {v : Value} {xs : Q} (h : QR w B v xs) : Kd.R k126 126 w B (fun k => v.ownBlock = some k) v xs :=
  ⟨fun k hk => hk, h.2.imp_ (fun p c hp => by obtain rfl := k126_openM hp; exact k126_mkM _ _ _ _)⟩
theorem QIs.move {w w1 : World} {B ab : Nat} {v : Value} {xs : Q} (h : QIs w B ab v xs) (hm : ∀ k, k = ab ∨ v.ownBlock = some k → k < w.heap.size → w1.heap[k]? = w.heap[k]?) : QIs w1 B ab v xs :=
  ⟨(hm ab (.inl rfl) (blk_lt h.blk)).trans h.blk, Kd.R_mono (Kd.R_step h.row.tight (fun k hk hlt => hm k (.inr hk) hlt)) (fun _ _ => trivial)⟩
theorem AlIs.move {w w1 : World} {B ab : Nat} {bo : Option Nat} {l : Q} (h : AlIs w B ab bo l) (hm : ∀ k, k = ab ∨ bo = some k → k < w.heap.size → w1.heap[k]? = w.heap[k]?) : AlIs w1 B ab bo l := by
  obtain ⟨v, xs, rfl, hq, hg⟩ := h
  exact ⟨v, xs, rfl, hq.move hm, hg⟩

theorem FrS.grown_new {S : Nat → Prop} {w w1 w2 : World} {row : Option Nat} (h : FrS S w w1) (hg : w1.grownBy w2 row) (hr : ∀ k, row = some k → w.heap.size ≤ k) : FrS S w w2 :=
  ⟨hg.os.trans h.os, hg.tape.trans h.tape, hg.output.trans h.output, Nat.le_trans h.size hg.size, fun k hk hn =>
    (hg.block k (Nat.lt_of_lt_of_le hk h.size) (fun e => by have := hr k e.symm; omega)).trans (h.block k hk hn)⟩
def due (now : Int) (l : Q) : List Int := (l.takeWhile (fun a => decide (a.f0 ≤ now))).map (·.f1)
def rest (now : Int) (l : Q) : Q := l.dropWhile (fun a => decide (a.f0 ≤ now))

set_option maxHeartbeats 1000000 in
set_option maxRecDepth 100000 in
theorem due_calls (B ab : Nat) (bo : Option Nat) (l : Q) (now : Int) (w : World) (h : AlIs w B ab bo l) (hB : B ≤ w.heap.size) (hlt : ab < w.heap.size ∧ ∀ k, bo = some k → k < w.heap.size) (hmx : l.length ≤ 100000) :
    Calls Try.prog 30 #[.pointer (some ⟨ab, 0, none⟩), .int .i64 now] w fun e w' => ∃ v, e = .returned v ∧ Kd.R (Kd.int .i64) 3 w' w.heap.size (fun k => w.heap.size ≤ k) v (due now l) ∧ AlIs w' B ab bo (rest now l) ∧ FrS (fun k => k = ab ∨ bo = some k) w w' := by
  have H := Aside0.mk h
  have HB := Aside0.mk hB
  have HLT := Aside0.mk hlt
  clear h hB hlt
  go_enter Try.func30, Try.ntmps30
  go_wp2_with fail
  go_loopg [5] l.length (fun kq v5 wr => ∃ (l1 : Q) (ys : List Int), l1.length = kq ∧ l1.length + ys.length ≤ l.length ∧ Aside0 (ys ++ due now l1 = due now l) ∧ Aside0 (rest now l1 = rest now l) ∧ Aside0 (Kd.R (Kd.int .i64) 3 wr w.heap.size (fun k => w.heap.size ≤ k) v5 ys) ∧ Aside0 (AlIs wr B ab bo l1) ∧ Aside0 (FrS (fun k => k = ab ∨ bo = some k) w wr))
  case atStart => exact ⟨l, [], rfl, by simp, ⟨rfl⟩, ⟨rfl⟩, ⟨Kd.R_nil _ _ _ _ _⟩, H, ⟨FrS.refl _ _⟩⟩
  case round =>
    obtain ⟨l1, ys, hl1, hly, HD, HR, HO, HI, HF⟩ := hrel
    obtain ⟨A5, c5, rfl⟩ := Kd.R_slice HO.out
    obtain ⟨v1, xs1, hv1, hQ, hG⟩ := HI.out
    have hlen := hG.perm.length_eq
    cases l1 with
    | nil =>
      obtain rfl : xs1 = [] := List.length_eq_zero_iff.1 (by simpa using hlen)
      obtain ⟨A1, c1, ev⟩ := Kd.R_slice hQ.row
      subst ev
      have c0 := hQ.cell
      simp only [List.length_nil] at c0
      clear hQ hG hlen
      go_wp2_with fail
      go_ret
      exact ⟨_, rfl, by rw [← HD.out]; simpa [due] using HO.out, by rw [← HR.out]; exact HI.out, HF.out⟩
    | cons a l2 =>
      have hhead := hG.head
      have hpos : 0 < xs1.length := by rw [hlen]; simp
      obtain ⟨gb, cc, rfl, hne⟩ := hQ.form hpos
      have c0 := hQ.cell
      obtain ⟨y0, y1, hfz⟩ := hQ.row.elem (i := 0) hpos
      rw [hhead, Nat.zero_mul] at y0 y1
      rw [Nat.zero_add] at y1
      have HQ := Aside0.mk hQ
      have HG := Aside0.mk hG
      have HX := Aside0.mk (show xs1.length ≤ 100000 by rw [hlen]; omega)
      have HN : Aside0 (xs1.length = l2.length + 1) := ⟨by rw [hlen]; simp⟩
      clear hlen
      generalize xs1.length = n at c0 HQ hpos HX HN
      clear hQ hG hhead
      by_cases hle : a.f0 ≤ now
      · have hb : decide (a.f0 ≤ now) = true := decide_eq_true hle
        have HD2 : Aside0 ((ys ++ [a.f1]) ++ due now l2 = due now l) := ⟨by rw [← HD.out]; simp [due, List.takeWhile_cons, hle]⟩
        have HR2 : Aside0 (rest now l2 = rest now l) := ⟨by rw [← HR.out]; simp [rest, List.dropWhile_cons, hle]⟩
        clear hle
        go_wp2_with ((with_reducible refine gate_builtin (b := .append) (xs := #[.tmp 23, .tmp 31]) rfl ?_); at_builtin; refine Kd.R_append (Kd.int .i64) (w0 := wr) w.heap.size rfl (.tmp 23) (.tmp 31) 46 3 (.int .i64 0) 8 rfl Try.underlying46 info3 rfl (by decide) (by decide) (.slice A5 ys.length c5) ys a.f1 [.int .i64 a.f1] (fun k => w.heap.size ≤ k) (fun _ => False) rfl rfl ?aP (fun _ hk => hk.elim) ?aF ?aO ?aB ?aS ?aL ?_; (case aP => exact rfl); (case aF => exact fun k hk => Nat.le_trans HF.out.size hk); (case aO => exact HO.out); (case aB => exact Below.refl _ _); (case aS => exact HF.out.size); (case aL => simp at hly; omega); intro v5 w5 ho hb5 hg hat; have HO5 := Aside0.mk ho; have HG5 := Aside0.mk hg; clear ho hb5 hg hat)
        have hbo : some gb = bo := hv1
        have hgb := HLT.out.2 gb hbo.symm
        have hab := HLT.out.1
        have HQ5 := Aside0.mk (HQ.out.move (w1 := w5) (fun k hk hlt => HG5.out.block k hlt (fun e => by
          have := HO.out.1 k e.symm
          rcases hk with hk | hk
          · omega
          · have e' : gb = k := by injection hk
            omega)))
        have HF5 := Aside0.mk (FrS.grown_new HF.out HG5.out HO.out.1)
        clear HQ HF HG5 HO hv1 c0 y0 y1 hfz
        refine (hpop_calls B ab _ xs1 w5 HQ5.out (by rw [HG.out.perm.length_eq]; simp) (by rw [HG.out.perm.length_eq]; omega)).mono ?_
        rintro e w6 ⟨rfl, v6, hQ6, hT6, hv6⟩
        have HI6 : Aside0 (AlIs w6 B ab bo l2) := ⟨v6, popL xs1, hv6.trans hbo, hQ6, HG.out.pop.2⟩
        have HO6 := Aside0.mk (Kd.R_step HO5.out (w1 := w6) (fun k hk hlt => hT6.1.block k hlt (fun e => by
          rcases e with e | e
          · omega
          · have e' : gb = k := by injection e
            omega)))
        have HF6 := Aside0.mk (HF5.out.trans (hT6.1.mono (fun k _ e => e.imp id (fun e => hbo.symm.trans e))))
        have HY : Aside0 ((ys ++ [a.f1]).length = ys.length + 1) := ⟨by simp⟩
        generalize ys ++ [a.f1] = ys2 at HO6 HD2 HY
        clear hQ6 hT6 hv6 hbo hgb hab HQ5 HF5 HO5 HI
        go_wp2_with fail
        go_roundg l2.length
        case measure => simp at hl1; omega
        case rel => exact ⟨l2, ys2, rfl, by simp at hly; rw [HY.out]; omega, HD2, HR2, HO6, HI6, HF6⟩
      · have HD2 : Aside0 (ys = due now l) := ⟨by rw [← HD.out]; simp [due, List.takeWhile_cons, hle]⟩
        have HR2 : Aside0 (a :: l2 = rest now l) := ⟨by rw [← HR.out]; simp [rest, List.dropWhile_cons, hle]⟩
        go_wp2_with fail
        go_ret
        exact ⟨_, rfl, by rw [← HD2.out]; exact HO.out, by rw [← HR2.out]; exact HI.out, HF.out⟩
end Go.Proofs.Ytcdlccnpbhjgkaa.Ti
