/- health: New, mask, Report, Sick, Last, walked. -/
import Derived.Test.YtnkpleggmiamdaaPHealthApartx1
import Derived.Test.YtnkpleggmiamdaaMp
namespace Go.Proofs.Ytnkpleggmiamdaa.He
open Go.RowKit Go.Maps Go.Proofs.YtnkpleggmiamdaaW.PrintWords Go.Proofs.YtnkpleggmiamdaaW.PrintLast Go.Proofs.YtnkpleggmiamdaaW.PrintMore
open Go.Proofs.Ytnkpleggmiamdaa.PHealthApart Go.Proofs.Ytnkpleggmiamdaa.Mp
set_option linter.unusedVariables false
set_option linter.unusedSimpArgs false

abbrev Kn := Int × Int × Int
def encK (k : Kn) : Value := .agg #[.int .i64 k.1, .int .i64 k.2.1, .int .u64 k.2.2]
structure WatchIs (w : World) (p bm : Nat) (win lim : Int) (M : List (Int × Kn)) : Prop where
  blk : w.heap[p]? = some (.cells #[.int .i64 win, .int .i64 lim, .map (some bm)] 118 (0, 0))
  map : MapIs w bm (amap encK M)
theorem WatchIs.below {w w1 : World} {p bm : Nat} {win lim : Int} {M : List (Int × Kn)} (h : WatchIs w p bm win lim M) (hb : Below w.heap.size w w1) : WatchIs w1 p bm win lim M := ⟨blk_below h.blk hb, h.map.below hb⟩
theorem WatchIs.fr {w w1 : World} {p bm g : Nat} {win lim : Int} {M : List (Int × Kn)} (h : WatchIs w p bm win lim M) (hf : Fr1 w w1 g) (hp : p ≠ g) (hb : bm ≠ g) : WatchIs w1 p bm win lim M := ⟨hf.blk h.blk hp, h.map.fr hf hb⟩
theorem WatchIs.ne {w : World} {p bm : Nat} {win lim : Int} {M : List (Int × Kn)} (h : WatchIs w p bm win lim M) : p ≠ bm := by
  rintro rfl
  obtain ⟨es, c, hb, _⟩ := h.map.out
  rw [h.blk] at hb
  cases hb

theorem zeroK (w : World) : (zeroValue 120).run Try.prog w = .ok (encK (0, 0, 0)) w := by kernel_rfl

theorem new_ok (win lim : Int) (w : World) (h : 1 ≤ win ∧ win ≤ 64 ∧ 1 ≤ lim ∧ lim ≤ win) :
    Calls Try.prog 32 #[.int .i64 win, .int .i64 lim] w fun e w' => ∃ p bm, e = .returned (.tuple #[.pointer (some ⟨p, 0, none⟩), .int .i64 0]) ∧ w.heap.size ≤ p ∧ w.heap.size ≤ bm ∧ WatchIs w' p bm win lim [] ∧ Below w.heap.size w w' := by
  obtain ⟨h1, h2, h3, h4⟩ := h
  have hmm := @run_makeMap Try.prog
  go_enter Try.func32, Try.ntmps32
  go_wp2
  go_ret2
  exact ⟨w.heap.size + 1, w.heap.size, rfl, by omega, by omega, ⟨by simpa using blk_new (w.alloc _) _, (MapIs.made w).alloc _⟩, ((Below.refl _ _).alloc (Nat.le_refl _) _).alloc (by simp) _⟩


theorem known_get (M : List (Int × Kn)) (c : Int) : ((alook c (amap encK M)).getD (encK (0, 0, 0))) = encK ((alook c M).getD (0, 0, 0)) := by
  rw [alook_map]; cases alook c M <;> rfl

theorem fld0 (x y z : Value) (w : World) : (Instr.field 120 (.agg #[x, y, z]) 0).run Try.prog w = .ok x w := by kernel_rfl
theorem fld2 (k n : IntKind) (x : Value) (y z : Int) (w : World) : (Instr.field 120 (.agg #[x, .int k y, .int n z]) 2).run Try.prog w = .ok (.int n z) w := by kernel_rfl

set_option maxRecDepth 100000 in
theorem last_calls (p bm : Nat) (win lim : Int) (M : List (Int × Kn)) (c : Int) (w : World) (h : WatchIs w p bm win lim M) :
    Calls Try.prog 35 #[.pointer (some ⟨p, 0, none⟩), .int .i64 c] w fun e w' => e = .returned (.int .i64 ((alook c M).getD (0, 0, 0)).1) ∧ w' = w := by
  have c2 : w.cell? ⟨p, 2, none⟩ = some (.map (some bm)) := (blk_cell h.blk 2).trans rfl
  have hl := run_lookup Try.underlying116 Try.underlying3 (zeroK w) h.map c false
  rw [known_get] at hl
  simp only [Bool.false_eq_true, if_false, encK] at hl
  clear h
  have hf := fld0
  go_enter Try.func35, Try.ntmps35
  go_wp2
  go_ret
  exact ⟨rfl, rfl⟩

def maskF (win : Int) : Int := 18446744073709551615 / 2 ^ (64 - win).toNat

theorem mask_calls (p : Nat) (win lim : Int) (x : Value) (w : World) (h : w.heap[p]? = some (.cells #[.int .i64 win, .int .i64 lim, x] 118 (0, 0))) (h1 : 1 ≤ win) (h2 : win ≤ 64) :
    Calls Try.prog 68 #[.pointer (some ⟨p, 0, none⟩)] w fun e w' => e = .returned (.int .u64 (maskF win)) ∧ w' = w := by
  have c0 : w.cell? ⟨p, 0, none⟩ = some (.int .i64 win) := (blk_cell h 0).trans rfl
  clear h
  unfold maskF
  go_enter Try.func68, Try.ntmps68
  go_wp2
  go_ret
  exact ⟨rfl, rfl⟩

set_option maxRecDepth 100000 in
theorem sick_calls (p bm : Nat) (win lim : Int) (M : List (Int × Kn)) (c : Int) (w : World) (h : WatchIs w p bm win lim M) (r : Int) (hr : bits_OnesCount64.f ((alook c M).getD (0, 0, 0)).2.2 = some r) :
    Calls Try.prog 34 #[.pointer (some ⟨p, 0, none⟩), .int .i64 c] w fun e w' => e = .returned (.bool (decide (lim ≤ r))) ∧ Below w.heap.size w w' := by
  have c1 : w.cell? ⟨p, 1, none⟩ = some (.int .i64 lim) := (blk_cell h.blk 1).trans rfl
  have c2 : w.cell? ⟨p, 2, none⟩ = some (.map (some bm)) := (blk_cell h.blk 2).trans rfl
  have hl := fun n => run_lookup Try.underlying116 Try.underlying3 (zeroK (w.drewN n)) (h.map.drewN n) c false
  simp only [known_get, Bool.false_eq_true, if_false] at hl
  simp only [encK] at hl
  have HR := Aside0.mk hr
  clear h hr
  have hf := fld2
  go_enter Try.func34, Try.ntmps34
  go_wp2
  go_quiet ((go_at_call 69; exact Calls.quiet_of ((bits_OnesCount64.calls _ _ _ HR.out).mono fun e w' ⟨he, hd⟩ => ⟨he, hd.out⟩)))
  go_wp2
  go_ret
  exact ⟨rfl, pw_below_drewN (Below.refl _ _) _⟩

def knF (M : List (Int × Kn)) (c : Int) : Kn := (alook c M).getD (0, 0, 0)
def okF (c n : Int) : Bool := decide (0 ≤ c ∧ c < 1048576 ∧ 1 ≤ n ∧ n < 1099511627776)
theorem right_at (c n : Int) : health_right.f c n = some (okF c n) := by
  unfold health_right.f okF
  repeat' split
  all_goals first | (simp; omega) | simp_all

def bitsF (kb win : Int) (good : Bool) : Int := if good then bits .and .u64 (IntKind.u64.wrap (kb * 2)) (maskF win) else bits .or .u64 (bits .and .u64 (IntKind.u64.wrap (kb * 2)) (maskF win)) 1
def newK (k : Kn) (win n : Int) (good : Bool) : Kn := (n, if win < k.2.1 + 1 then win else k.2.1 + 1, bitsF k.2.2 win good)

set_option maxHeartbeats 1000000 in
set_option maxRecDepth 100000 in
theorem report_yes (p bm : Nat) (win lim : Int) (M : List (Int × Kn)) (c n : Int) (good : Bool) (w : World) (h : WatchIs w p bm win lim M) (h1 : 1 ≤ win) (h2 : win ≤ 64) (hw : (Lit.int .i64 c).wf = true) (hcnt : 0 ≤ (knF M c).2.1 ∧ (knF M c).2.1 ≤ 64) (hok : okF c n = true) (hn : (knF M c).1 < n) :
    Calls Try.prog 33 #[.pointer (some ⟨p, 0, none⟩), .int .i64 c, .int .i64 n, .bool good] w fun e w' => e = .returned (.bool true) ∧ WatchIs w' p bm win lim (aput c (newK (knF M c) win n good) M) ∧ Fr1 w w' bm := by
  have c0 : w.cell? ⟨p, 0, none⟩ = some (.int .i64 win) := (blk_cell h.blk 0).trans rfl
  have c2 : w.cell? ⟨p, 2, none⟩ = some (.map (some bm)) := (blk_cell h.blk 2).trans rfl
  have hl := run_lookup Try.underlying116 Try.underlying3 (zeroK w) h.map c false
  simp only [known_get, Bool.false_eq_true, if_false] at hl
  have hkn : (alook c M).getD (0, 0, 0) = knF M c := rfl
  rw [hkn] at hl
  generalize knF M c = k at hl hcnt hn
  obtain ⟨kl, kn, kb⟩ := k
  simp only [encK] at hl hcnt hn
  have hd : decide (n ≤ kl) = false := by simp; omega
  have HOK := Aside0.mk ((right_at c n).trans (by rw [hok]))
  have HW := Aside0.mk h
  clear h hok
  obtain ⟨hc1, hc2⟩ := hcnt
  go_enter Try.func33, Try.ntmps33
  go_wp2_with (go_at_call 67; refine (health_right.calls c n true _ HOK.out).mono ?_; rintro e w' ⟨rfl, ⟨nd, rfl⟩⟩)
  have BW := Aside0.mk (blk_drewN (blk_alloc HW.out.blk (.cells #[.int .i64 kl, .int .i64 kn, .int .u64 kb] 120)) nd)
  have MW := Aside0.mk ((HW.out.map.alloc (.cells #[.int .i64 kl, .int .i64 kn, .int .u64 kb] 120)).drewN nd)
  have NW := Aside0.mk (blk_drewN (blk_new w (.cells #[.int .i64 kl, .int .i64 kn, .int .u64 kb] 120)) nd)
  have HB := Aside0.mk (pw_below_drewN ((Below.refl w.heap.size w).alloc (Nat.le_refl _) (.cells #[.int .i64 kl, .int .i64 kn, .int .u64 kb] 120)) nd)
  have hpl : p ≠ w.heap.size := by have := blk_lt HW.out.blk; omega
  have hpl' : w.heap.size ≠ p := hpl.symm
  generalize hW : (w.alloc (.cells #[.int .i64 kl, .int .i64 kn, .int .u64 kb] 120)).drewN nd = W at BW MW NW HB
  clear hW
  have d0 : W.cell? ⟨p, 0, none⟩ = some (.int .i64 win) := (blk_cell BW.out 0).trans rfl
  have n0 : W.cell? ⟨w.heap.size, 0, none⟩ = some (.int .i64 kl) := (blk_cell NW.out 0).trans rfl
  have n1 : W.cell? ⟨w.heap.size, 1, none⟩ = some (.int .i64 kn) := (blk_cell NW.out 1).trans rfl
  have n2 : W.cell? ⟨w.heap.size, 2, none⟩ = some (.int .u64 kb) := (blk_cell NW.out 2).trans rfl
  have m0 := blk_frozen NW.out 0
  have m1 := blk_frozen NW.out 1
  have m2 := blk_frozen NW.out 2
  clear c0 c2 hl
  go_region
  have BW2 := Aside0.mk (blk_drew (blk_far (blk_far BW.out (p := ⟨w.heap.size, 0, none⟩) hpl (.int .i64 n)) (p := ⟨w.heap.size, 1, none⟩) hpl (.int .i64 (if win < kn + 1 then win else kn + 1))))
  have MW2 := Aside0.mk (((MW.out.far (p := ⟨w.heap.size, 0, none⟩) (by have := HW.out.map.lt; show bm ≠ w.heap.size; omega) (.int .i64 n)).far (p := ⟨w.heap.size, 1, none⟩) (by have := HW.out.map.lt; show bm ≠ w.heap.size; omega) (.int .i64 (if win < kn + 1 then win else kn + 1))).drew)
  have NW2 := Aside0.mk (blk_drew (blk_set (blk_set NW.out 0 (.int .i64 n)) 1 (.int .i64 (if win < kn + 1 then win else kn + 1))))
  have HB2 := Aside0.mk (((HB.out.setCell (p := ⟨w.heap.size, 0, none⟩) (Nat.le_refl _) (.int .i64 n)).setCell (p := ⟨w.heap.size, 1, none⟩) (Nat.le_refl _) (.int .i64 (if win < kn + 1 then win else kn + 1))).drew)
  clear BW MW NW HB d0 n0 n1 n2 m0 m1 m2
  generalize hW : ((W.setCell ⟨w.heap.size, 0, none⟩ (.int .i64 n)).setCell ⟨w.heap.size, 1, none⟩ (.int .i64 (if win < kn + 1 then win else kn + 1))).drew = W2 at BW2 MW2 NW2 HB2
  clear hW
  generalize hc : (if win < kn + 1 then win else kn + 1) = cn at NW2
  have HCN := Aside0.mk hc
  clear hc
  have d0 : W2.cell? ⟨p, 0, none⟩ = some (.int .i64 win) := (blk_cell BW2.out 0).trans rfl
  have n2 : W2.cell? ⟨w.heap.size, 2, none⟩ = some (.int .u64 kb) := (blk_cell NW2.out 2).trans rfl
  have m2 := blk_frozen NW2.out 2
  go_wp2_with fail
  go_cut [] (fun wc => Aside0 (wc.heap[p]? = some (.cells #[.int .i64 win, .int .i64 lim, .map (some bm)] 118 (0, 0))) ∧ Aside0 (MapIs wc bm (amap encK M)) ∧ Aside0 (wc.heap[w.heap.size]? = some (.cells #[.int .i64 n, .int .i64 cn, .int .u64 (bits .and .u64 (IntKind.u64.wrap (kb * 2)) (maskF win))] 120 (0, 0))) ∧ Aside0 (Below w.heap.size w wc))
  case first =>
    go_region_with (go_at_call 68; refine (mask_calls p win lim (.map (some bm)) _ (by exact BW2.out) h1 h2).mono ?_; rintro e w' ⟨rfl, rfl⟩)
    all_goals
      go_wp2_with fail
      go_meet
      case rel => exact ⟨⟨blk_drew (blk_far BW2.out hpl _)⟩, ⟨(MW2.out.far (by have := HW.out.map.lt; show bm ≠ w.heap.size; omega) _).drew⟩, ⟨blk_drew (blk_set NW2.out 2 _)⟩, ⟨(HB2.out.setCell (Nat.le_refl _) _).drew⟩⟩
  case rest =>
    obtain ⟨B3, M3, N3, H3⟩ := hcut
    clear BW2 MW2 NW2 HB2 d0 n2 m2
    generalize hb1 : bits .and .u64 (IntKind.u64.wrap (kb * 2)) (maskF win) = b1 at N3
    have HB1 := Aside0.mk hb1
    clear hb1
    have n2 : wc.cell? ⟨w.heap.size, 2, none⟩ = some (.int .u64 b1) := (blk_cell N3.out 2).trans rfl
    have m2 := blk_frozen N3.out 2
    cases good with
    | true =>
      have d0 : wc.cell? ⟨p, 2, none⟩ = some (.map (some bm)) := (blk_cell B3.out 2).trans rfl
      have n0 : wc.cell? ⟨w.heap.size, 0, none⟩ = some (.int .i64 n) := (blk_cell N3.out 0).trans rfl
      have n1 : wc.cell? ⟨w.heap.size, 1, none⟩ = some (.int .i64 cn) := (blk_cell N3.out 1).trans rfl
      obtain ⟨w3, hu, HM, HF, hz⟩ := run_mapUpdate Try.underlying116 Try.underlying3 M3.out.drew c hw (encK (n, cn, b1))
      have HM3 := Aside0.mk HM
      have HF3 := Aside0.mk HF
      simp only [encK] at hu
      clear HM HF hz
      go_wp2_with fail
      go_region
      go_wp2_with fail
      go_ret
      have hk : newK (kl, kn, kb) win n true = (n, cn, b1) := by simp only [newK, bitsF, HB1.out, HCN.out, if_true]
      rw [hk]
      exact ⟨rfl, ⟨HF3.out.blk (blk_drew B3.out) HW.out.ne, by rw [← aput_map]; exact HM3.out⟩, Fr1.of_new H3.out.drew HF3.out⟩
    | false =>
      have d0 : wc.cell? ⟨p, 2, none⟩ = some (.map (some bm)) := (blk_cell B3.out 2).trans rfl
      have n0 : wc.cell? ⟨w.heap.size, 0, none⟩ = some (.int .i64 n) := (blk_cell N3.out 0).trans rfl
      have n1 : wc.cell? ⟨w.heap.size, 1, none⟩ = some (.int .i64 cn) := (blk_cell N3.out 1).trans rfl
      obtain ⟨w3, hu, HM, HF, hz⟩ := run_mapUpdate Try.underlying116 Try.underlying3 ((M3.out.far (p := ⟨w.heap.size, 2, none⟩) (by have := HW.out.map.lt; show bm ≠ w.heap.size; omega) (.int .u64 (bits .or .u64 b1 1))).drew) c hw (encK (n, cn, bits .or .u64 b1 1))
      have HM3 := Aside0.mk HM
      have HF3 := Aside0.mk HF
      simp only [encK] at hu
      clear HM HF hz
      go_wp2_with fail
      go_region
      go_wp2_with fail
      go_ret
      have hk : newK (kl, kn, kb) win n false = (n, cn, bits .or .u64 b1 1) := by simp [newK, bitsF, HB1.out, HCN.out]
      rw [hk]
      exact ⟨rfl, ⟨HF3.out.blk (blk_drew (blk_far B3.out hpl _)) HW.out.ne, by rw [← aput_map]; exact HM3.out⟩, Fr1.of_new (H3.out.setCell (Nat.le_refl _) _).drew HF3.out⟩

set_option maxRecDepth 100000 in
theorem report_no (p bm : Nat) (win lim : Int) (M : List (Int × Kn)) (c n : Int) (good : Bool) (w : World) (h : WatchIs w p bm win lim M) (hno : okF c n = false ∨ n ≤ (knF M c).1) :
    Calls Try.prog 33 #[.pointer (some ⟨p, 0, none⟩), .int .i64 c, .int .i64 n, .bool good] w fun e w' => e = .returned (.bool false) ∧ Below w.heap.size w w' := by
  have c0 : w.cell? ⟨p, 0, none⟩ = some (.int .i64 win) := (blk_cell h.blk 0).trans rfl
  have c2 : w.cell? ⟨p, 2, none⟩ = some (.map (some bm)) := (blk_cell h.blk 2).trans rfl
  have hl := run_lookup Try.underlying116 Try.underlying3 (zeroK w) h.map c false
  simp only [known_get, Bool.false_eq_true, if_false] at hl
  have hkn : (alook c M).getD (0, 0, 0) = knF M c := rfl
  rw [hkn] at hl
  generalize knF M c = k at hl hno
  obtain ⟨kl, kn, kb⟩ := k
  simp only [encK] at hl hno
  clear h
  have HB := Aside0.mk ((Below.refl w.heap.size w).alloc (Nat.le_refl _) (.cells #[.int .i64 kl, .int .i64 kn, .int .u64 kb] 120))
  cases hok : okF c n with
  | false =>
    have HOK := Aside0.mk ((right_at c n).trans (by rw [hok]))
    clear hok hno
    go_enter Try.func33, Try.ntmps33
    go_wp2_with (go_at_call 67; refine (health_right.calls c n false _ HOK.out).mono ?_; rintro e w' ⟨rfl, ⟨nd, rfl⟩⟩)
    go_ret
    exact ⟨rfl, pw_below_drewN HB.out _⟩
  | true =>
    have HOK := Aside0.mk ((right_at c n).trans (by rw [hok]))
    have hd : decide (n ≤ kl) = true := by simp [hok] at hno; simpa using hno
    clear hok hno
    go_enter Try.func33, Try.ntmps33
    go_wp2_with (go_at_call 67; refine (health_right.calls c n true _ HOK.out).mono ?_; rintro e w' ⟨rfl, ⟨nd, rfl⟩⟩)
    go_ret
    exact ⟨rfl, pw_below_drewN HB.out _⟩

end Go.Proofs.Ytnkpleggmiamdaa.He
