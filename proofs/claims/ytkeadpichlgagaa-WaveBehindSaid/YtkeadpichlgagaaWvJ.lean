/- wave: Ready, walked. -/
import Derived.Test.YtkeadpichlgagaaWvI
import Derived.Laws.EntriesVeiled
namespace Go.Proofs.Ytkeadpichlgagaa.Wv
open Go.RowKit Go.Maps Go.Proofs.YtkeadpichlgagaaW.PrintWords Go.Proofs.YtkeadpichlgagaaW.PrintLast Go.Proofs.YtkeadpichlgagaaW.PrintMore
open Go.Proofs.Ytkeadpichlgagaa.PWaveReady Go.Proofs.Ytkeadpichlgagaa.Mp
set_option linter.unusedVariables false
set_option linter.unusedSimpArgs false
set_option linter.unnecessarySimpa false

def isRO (G : Gr) (over : List Bool) (n : Int) : Bool := !isO over n && (row G n).all (isO over)
def rdyO (G : Gr) (over : List Bool) : List Int := if ordE G = 0 then (rng G.length).filter (isRO G over) else []
theorem rngf_succ (f : Int → Bool) (i : Nat) : (rng (i + 1)).filter f = (rng i).filter f ++ (if f (i : Int) then [(i : Int)] else []) := by
  rw [rng_succ, List.filter_append]
  congr 1
  cases h : f (i : Int) <;> simp [h]
theorem rngf_length (f : Int → Bool) (i : Nat) : ((rng i).filter f).length ≤ i := Nat.le_trans (List.length_filter_le _ _) (by rw [rng_length]; exact Nat.le_refl _)
theorem any_not {p : Int → Bool} : ∀ l : List Int, (!(l.any (fun e => !p e))) = l.all p
  | [] => rfl
  | x :: l => by rw [List.any_cons, List.all_cons, ← any_not l, Bool.not_or, Bool.not_not]

set_option maxHeartbeats 2000000 in
set_option maxRecDepth 100000 in
theorem ready_calls (Ao : Option Addr) (co : Nat) (over : List Bool) (A : Option Addr) (c : Nat) (G : Gr) (w : World) (ho : Kd.bool.C w Ao over.length over) (hr : GC w A G) (hc : G.length ≤ c) (hz : Gsz G) :
    Calls Try.prog 24 #[.slice Ao over.length co, .slice A G.length c] w fun e w' => ∃ v, e = .returned v ∧ IR w' w.heap.size v (rdyO G over) ∧ Below w.heap.size w w' := by
  have HO := Aside0.mk ho
  have HR := Aside0.mk hr
  have HZ := Aside0.mk hz
  clear ho hr hz
  go_enter Try.func24, Try.ntmps24
  go_wp2_with fail
  have hB1 : Below w.heap.size w (w.alloc (.cells #[.slice Ao over.length co] 34)) := (Below.refl _ _).alloc (Nat.le_refl _) _
  have HB1 := Aside0.mk hB1
  have HX := Aside0.mk (blk_new w (.cells #[.slice Ao over.length co] 34))
  clear hB1
  generalize hbx : w.heap.size = bx at HX HB1 ⊢
  have HBX := Aside0.mk hbx
  clear hbx
  generalize w.alloc (.cells #[.slice Ao over.length co] 34) = w1 at HX HB1 ⊢
  have HB1' : Aside0 (Below w.heap.size w w1) := ⟨by rw [HBX.out]; exact HB1.out⟩
  refine (right_calls A c G w1 (Kd.C_below HR.out HB1'.out) hc HZ.out).mono ?_
  rintro e w2 ⟨rfl, hb⟩
  have HB2 := Aside0.mk (HB1'.out.trans (hb.mono HB1'.out.size))
  replace HX := Aside0.mk (blk_below HX.out hb)
  clear hb HB1 HB1'
  by_cases h0 : ordE G = 0
  · have HRT := Aside0.mk (rt_of h0)
    have HE : Aside0 (rdyO G over = (rng G.length).filter (isRO G over)) := ⟨by unfold rdyO; rw [if_pos h0]⟩
    rw [h0]
    clear h0
    have hzn := HZ.out.n
    obtain ⟨N, hN⟩ : ∃ N, G.length = N := ⟨_, rfl⟩
    have HNN := Aside0.mk hN
    rw [hN] at hzn hc ⊢
    clear hN
    go_wp2_with fail
    have HB3 := Aside0.mk (HB2.out.alloc HB2.out.size (.cells #[.func (.func 72) #[] #[.pointer (some ⟨bx, 0, none⟩)]] 96))
    have HF3 := Aside0.mk (blk_new w2 (.cells #[.func (.func 72) #[] #[.pointer (some ⟨bx, 0, none⟩)]] 96))
    have HX3 := Aside0.mk (blk_alloc HX.out (.cells #[.func (.func 72) #[] #[.pointer (some ⟨bx, 0, none⟩)]] 96))
    clear HX HB2
    generalize w2.alloc (.cells #[.func (.func 72) #[] #[.pointer (some ⟨bx, 0, none⟩)]] 96) = w3 at HB3 HF3 HX3 ⊢
    generalize w2.heap.size = fx at HF3 ⊢
    go_loopg [6, 15] N (fun kq v6 v15 wr => ∃ (i : Nat), v15 = .int .i64 i ∧ i + kq = N ∧ Aside0 ((Kd.int .i64).R 3 wr w3.heap.size (fun k => w3.heap.size ≤ k) v6 ((rng i).filter (isRO G over))) ∧ Aside0 (Below w3.heap.size w3 wr))
    case atStart => exact ⟨0, rfl, by omega, ⟨Kd.R_nil _ _ _ _ _⟩, ⟨Below.refl _ _⟩⟩
    case round =>
      obtain ⟨i, rfl, hi, HOU, HBL⟩ := hrel
      by_cases hlt : i < N
      · have hlt' : (i : Int) < (N : Int) := by omega
        have HBW := Aside0.mk (HB3.out.trans (HBL.out.mono HB3.out.size))
        have HXL := Aside0.mk (blk_below HX3.out HBL.out)
        have HFL := Aside0.mk (blk_below HF3.out HBL.out)
        have x0 := (blk_cell HFL.out 0).trans (show _ = some (Value.func (.func 72) #[] #[.pointer (some ⟨bx, 0, none⟩)]) from rfl)
        have x1 := (blk_cell HXL.out 0).trans (show _ = some (Value.slice Ao over.length co) from rfl)
        have HOW := Aside0.mk (Kd.C_below HO.out HBW.out)
        have HRW := Aside0.mk (Kd.C_below HR.out HBW.out)
        obtain ⟨adr, A1, c1, ear, y0, hcap, hC1⟩ := at_L1 HRW.out i (by omega) (by rw [HNN.out]; exact hlt')
        subst ear
        rw [rd_row] at y0 hcap hC1
        simp only [Int.toNat_natCast] at y0
        have HC1 := Aside0.mk hC1
        have HIS := Aside0.mk (is_calls bx Ao co over (i : Int) wr x1 HOW.out (by omega))
        have HFS := Aside0.mk (rngf_succ (isRO G over) i)
        have hel : ∀ e ∈ row G (i : Int), 0 ≤ e := fun e he => (HRT.out.ok.at' i (by omega) (by rw [HNN.out]; omega) e he).1
        have HAS : Aside0 (Asks 74 fx (fun e => !isO over e) (row G (i : Int)) wr) := ⟨⟨cf74, fun e he W hW => (nis_calls fx bx Ao co over e W ((hW.cell (cell_lt x0)).trans x0) ((hW.cell (cell_lt x1)).trans x1) (Kd.C_below HOW.out hW) (hel e he)).mono (fun e' w' ⟨h1, h2⟩ => ⟨h1, by rw [h2]; exact Below.refl _ _⟩)⟩⟩
        have hcf := cf72
        have HAN := Aside0.mk (any_calls 74 fx (fun e => !isO over e) A1 c1 (row G (i : Int)) wr HC1.out HAS.out)
        have HRO : Aside0 (isRO G over (i : Int) = (!isO over (i : Int) && !((row G (i : Int)).any (fun e => !isO over e)))) := ⟨by unfold isRO; rw [any_not]⟩
        have hfl := rngf_length (isRO G over) i
        clear hel hC1 HAS
        generalize (row G (i : Int)).any (fun e => !isO over e) = an at HAN HRO
        generalize (row G (i : Int)) = rw1 at y0 hcap HC1 HAN
        generalize isO over (i : Int) = ov at HIS HRO
        generalize (rng i).filter (isRO G over) = xs at HOU HFS hfl
        cases ov with
        | true =>
          rw [HRO.out] at HFS
          simp only [Bool.not_true, Bool.false_and, Bool.false_eq_true, if_false, List.append_nil] at HFS
          go_wp2_with fail
          refine HIS.out.mono ?_
          rintro e w4 ⟨rfl, rfl⟩
          go_wp2_with fail
          go_roundg (N - (i + 1))
          case measure => omega
          case rel => exact ⟨i + 1, by go_num, by omega, ⟨by rw [HFS.out]; exact HOU.out⟩, HBL⟩
        | false =>
          go_wp2_with fail
          refine HIS.out.mono ?_
          rintro e w4 ⟨rfl, rfl⟩
          go_wp2_with fail
          refine HAN.out.mono ?_
          rintro e w5 ⟨rfl, hb⟩
          have HBL5 := Aside0.mk (HBL.out.trans (hb.mono HBL.out.size))
          have HOU5 := Aside0.mk (Kd.R_below HOU.out hb)
          clear hb
          cases an with
          | true =>
            rw [HRO.out] at HFS
            simp only [Bool.not_true, Bool.and_false, Bool.false_eq_true, if_false, List.append_nil] at HFS
            go_wp2_with fail
            go_roundg (N - (i + 1))
            case measure => omega
            case rel => exact ⟨i + 1, by go_num, by omega, ⟨by rw [HFS.out]; exact HOU5.out⟩, HBL5⟩
          | false =>
            rw [HRO.out] at HFS
            simp only [Bool.not_false, Bool.and_true, if_true] at HFS
            go_wp2_with ((with_reducible refine gate_builtin (b := .append) (xs := #[.tmp 30, .tmp 32]) rfl ?_); at_builtin; refine Kd.R_append (Kd.int .i64) (w0 := w3) w3.heap.size rfl (.tmp 30) (.tmp 32) 25 3 (.int .i64 0) 8 rfl Try.underlying25 info3 rfl (by decide) (by decide) u6 xs (i : Int) [.int .i64 (i : Int)] (fun k => w3.heap.size ≤ k) (fun _ => False) rfl rfl ?aP (fun _ hk => hk.elim) ?aF ?aO ?aB ?aS ?aL ?_; (case aP => exact rfl); (case aF => exact fun k hk => Nat.le_trans HBL5.out.size hk); (case aO => exact HOU5.out); (case aB => exact HBL5.out); (case aS => exact HBL5.out.size); (case aL => omega); intro v6 w6 ho6 hb6 hg6 hat6; have HO6 := Aside0.mk ho6; have HB6 := Aside0.mk hb6; clear ho6 hb6 hg6 hat6)
            rw [← HFS.out] at HO6
            go_roundg (N - (i + 1))
            case measure => omega
            case rel => exact ⟨i + 1, by go_num, by omega, HO6, HB6⟩
      · have hiN : i = N := by omega
        subst hiN
        go_wp2_with fail
        go_ret
        have hoo := HOU.out
        rw [← HNN.out, ← HE.out] at hoo
        exact ⟨_, rfl, Kd.R_mono (Kd.R_lower hoo HB3.out.size) (fun k hk => Nat.le_trans HB3.out.size hk), HB3.out.trans (HBL.out.mono HB3.out.size)⟩
  · have hb2 : (ordE G == 0) = false := by simpa using h0
    have hb3 : (ordE G != 0) = true := by simpa using h0
    have HE : Aside0 (rdyO G over = []) := ⟨by unfold rdyO; rw [if_neg h0]⟩
    clear h0
    go_wp2_with fail
    go_ret
    rw [HE.out]
    exact ⟨_, rfl, Kd.R_nil _ _ _ _ _, HB2.out⟩
end Go.Proofs.Ytkeadpichlgagaa.Wv
