/- members: Sorted over Values, Concat of two lists, All. -/
import Derived.Test.YtkeadpichlgagaaMeC
import Derived.Test.YtkeadpichlgagaaKeG
import Derived.Test.YtkeadpichlgagaaMp
namespace Go.Proofs.Ytkeadpichlgagaa.Me
open Go.RowKit Go.Lib Go.Sort Go.Shelf Go.Proofs.YtkeadpichlgagaaW.PrintWords Go.Proofs.YtkeadpichlgagaaW.PrintLast Go.Proofs.YtkeadpichlgagaaW.PrintMore
open Go.Proofs.Ytkeadpichlgagaa.PMembersNext Go.Proofs.Ytkeadpichlgagaa.Mp
set_option linter.unusedVariables false
set_option linter.unusedSimpArgs false
set_option linter.unnecessarySimpa false

theorem info3 : (Try.prog.info? 3).map (fun i => (i.zero, i.size, i.bytes)) = some (some (.int .i64 0), 1, 8) := by kernel_rfl
theorem ints_of {w : World} {A : Option Addr} {c : Nat} {xs : List Int} (h : (Kd.int .i64).C w A xs.length xs) (hc : xs.length ≤ c) (hlt : ∀ ad, A = some ad → xs ≠ [] → ad.block < w.heap.size) : A = none → c = 0 → Ints w.heap.size w (.slice A xs.length c) xs := by
  intro hA hc0
  subst hA
  obtain rfl := C_none h rfl
  exact .inl ⟨by rw [hc0]; rfl, rfl⟩
theorem ints_own {w : World} {B : Nat} {v : Value} {xs : List Int} (h : R3 w B v xs) : ∃ a cap, v = .slice a xs.length cap ∧ Ints w.heap.size w v xs := by
  rcases (own_of_R3 h).2 with ⟨e, hn⟩ | ⟨g, cap, cur, e, hb, hg, hnc, hcm, hcs, htk⟩
  · obtain rfl : xs = [] := List.length_eq_zero_iff.1 hn
    exact ⟨none, 0, e, .inl ⟨e, rfl⟩⟩
  · refine ⟨_, _, e, .inr ⟨g, 0, cap, e, (Array.getElem?_eq_some_iff.1 hg).1, fun j hj => ?_⟩⟩
    have h2 : (xs.map (Value.int .i64))[j]? = cur[j]? := by
      rw [← htk, Nat.mul_one, List.getElem?_take, if_pos hj, Array.getElem?_toList]
    simp only [World.cell?, hg, Nat.zero_add]
    simp only [Option.isSome_none, Bool.false_eq_true, if_false]
    rw [← h2, List.getElem?_map, List.getElem?_eq_getElem hj]
    rfl
theorem appendseq_calls (Bv : Nat) (a : Option Addr) (len cap : Nat) (zs : List Int) (hl : zs.length ≤ 1000000) (w : World) (hBv : Bv < w.heap.size) (hcv : w.cell? ⟨Bv, 0, none⟩ = some (.slice a len cap)) (hI : Ints w.heap.size w (.slice a len cap) zs) :
    Calls Try.prog 149 #[.slice none 0 0, .func (.func 123) #[] #[.pointer (some ⟨Bv, 0, none⟩)]] w fun e W' => ∃ v, e = .returned v ∧ R3 W' w.heap.size v zs ∧ Below w.heap.size w W' :=
  ((callsIn_wide (n := 3)).1 (appendseq_in Fence.wide 3 trivial trivial rfl (by omega) Bv a len cap zs hl w hBv hcv hI)).mono fun e W' ⟨v, he, ho, hb⟩ => ⟨v, he, (R3_of_own ho).1, hb⟩
set_option maxRecDepth 100000 in
theorem sorted_calls (Bv : Nat) (a : Option Addr) (len cap : Nat) (zs : List Int) (hl : zs.length ≤ 1000000) (w : World) (hBv : Bv < w.heap.size) (hcv : w.cell? ⟨Bv, 0, none⟩ = some (.slice a len cap)) (hI : Ints w.heap.size w (.slice a len cap) zs) :
    Calls Try.prog 97 #[.func (.func 123) #[] #[.pointer (some ⟨Bv, 0, none⟩)]] w fun e W' => ∃ v, e = .returned v ∧ R3 W' w.heap.size v (Wv.asc zs) ∧ Below w.heap.size w W' := by
  have HA := Aside0.mk (appendseq_calls Bv a len cap zs hl w hBv hcv hI)
  clear hcv hI
  have HCO : Aside0 (Calls Try.prog 122 #[.func (.func 123) #[] #[.pointer (some ⟨Bv, 0, none⟩)]] w fun e W' => ∃ v, e = .returned v ∧ R3 W' w.heap.size v zs ∧ Below w.heap.size w W') := ⟨by
    go_enter Try.func122, Try.ntmps122
    go_wp2_with fail
    refine HA.out.mono ?_
    rintro e w2 ⟨v, rfl, hr, hb⟩
    go_wp2_with fail
    go_ret
    exact ⟨_, rfl, hr, hb⟩⟩
  clear HA
  go_enter Try.func97, Try.ntmps97
  go_wp2_with fail
  refine HCO.out.mono ?_
  rintro e w2 ⟨v, rfl, hr, hb⟩
  have HR := Aside0.mk hr
  have HB := Aside0.mk hb
  clear hr hb
  go_wp2_with fail
  refine (Wv.sort_calls v zs w2 w.heap.size _ HR.out (by omega)).mono ?_
  rintro e w3 ⟨rfl, hr, hg⟩
  have hb : Below w.heap.size w w3 := HB.out.grown hg HB.out.size (fun k hk => HR.out.1 k hk)
  go_wp2_with fail
  go_ret
  exact ⟨_, rfl, hr, hb⟩

theorem grow_calls (n : Nat) (w : World) (hl : n ≤ 1000000) : Calls Try.prog 124 #[.slice none 0 0, .int .i64 (n : Int)] w fun e w' => ∃ v, e = .returned v ∧ R3 w' w.heap.size v [] ∧ Below w.heap.size w w' := by
  by_cases h0 : n = 0
  · subst h0
    exact (Any8.slices_Grow_room Ke.growA none 0 0 0 w (by omega) (by omega) (by omega) (by omega)).mono fun e w' ⟨he, hw⟩ => ⟨_, he, Kd.R_nil _ _ _ _ _, by rw [hw]; exact Below.refl _ _⟩
  · obtain ⟨i0, hi, hz0, hz1, hz2⟩ := info_parts info3
    refine (Any8.slices_Grow_grow Ke.growA i0 (.int .i64 0) hi hz0 (by omega) none 0 0 n [] w (by omega) (by omega) (by rw [hz2]; omega) (by omega) (by simp) (fun _ => rfl) (fun a h => by cases h)).mono ?_
    rintro e w' ⟨he, hw⟩
    simp only [show Ke.growA_ren.t 25 = 3 from rfl] at he hw
    have hge := grownCap_ge w (0 + n) 0 3
    have hle := grownCap_le_maxLen w (0 + n) 0 3 (by unfold maxLen; omega)
    refine ⟨_, he, ?_, ?_⟩
    · rw [hw]
      refine R_mk (xs := []) (n := 0) (Nat.le_refl _) (by exact grown_new (w := w.drew) _ _) rfl (Nat.zero_le _) hle ?_ (by simp)
      rw [Array.size_append, Array.size_append, zc_size, zc_size]
      show 0 + _ + _ = _
      omega
    · rw [hw]; exact (Below.refl _ w).drew.alloc (Nat.le_refl _) _
/-- Two lists behind one another. -/
def two (a b : List Int) (i : Nat) : List Int := if i = 0 then a else b
def upto2 (a b : List Int) (i : Nat) : List Int := if i = 0 then [] else if i = 1 then a else a ++ b
theorem upto2_next (a b : List Int) {i : Nat} (h : i < 2) : upto2 a b (i + 1) = upto2 a b i ++ two a b i := by
  unfold upto2 two
  rcases i with _ | i
  · simp
  · obtain rfl : i = 0 := by omega
    simp
theorem upto2_len (a b : List Int) (i : Nat) : (upto2 a b i).length ≤ a.length + b.length := by
  unfold upto2
  split
  · simp
  · split
    · omega
    · simp
set_option maxHeartbeats 2000000 in
set_option maxRecDepth 100000 in
theorem concat_calls (b : Nat) (A0 A1 : Option Addr) (c0 c1 : Nat) (xs ys : List Int) (w : World) (hb0 : w.heap[b]? = some (.cells #[.slice A0 xs.length c0, .slice A1 ys.length c1] 25 (0, 0))) (h0 : (Kd.int .i64).C w A0 xs.length xs) (h1 : (Kd.int .i64).C w A1 ys.length ys) (hc0 : xs.length ≤ c0) (hc1 : ys.length ≤ c1) (hl : xs.length + ys.length ≤ 1000000) :
    Calls Try.prog 99 #[.slice (some ⟨b, 0, none⟩) 2 2] w fun e w' => ∃ v, e = .returned v ∧ R3 w' w.heap.size v (xs ++ ys) ∧ Below w.heap.size w w' := by
  have HRW : Aside0 (∀ i : Nat, i < 2 → ∃ A c, w.cell? ⟨b, i, none⟩ = some (.slice A (two xs ys i).length c) ∧ (Kd.int .i64).C w A (two xs ys i).length (two xs ys i) ∧ (two xs ys i).length ≤ c) := ⟨fun i hi => by
    rcases i with _ | i
    · exact ⟨A0, c0, (blk_cell hb0 0).trans rfl, h0, hc0⟩
    · obtain rfl : i = 0 := by omega
      exact ⟨A1, c1, (blk_cell hb0 1).trans rfl, h1, hc1⟩⟩
  have hbl : b < w.heap.size := blk_lt hb0
  clear hb0 h0 h1 hc0 hc1
  go_enter Try.func99, Try.ntmps99
  go_wp2_with fail
  go_loopg [3, 5, 11] 2 (fun kq v3 v5 v11 wr => ∃ (i : Nat), v11 = .int .i64 i ∧ i + kq = 2 ∧ v3 = .int .i64 ((upto2 xs ys i).length : Nat) ∧ Aside0 (wr = w))
  case atStart => exact ⟨0, rfl, by omega, rfl, ⟨rfl⟩⟩
  case round =>
    obtain ⟨i, rfl, hi, rfl, HW⟩ := hrel
    have hww := HW.out.symm
    subst hww
    by_cases hlt : i < 2
    · obtain ⟨A, c, y0, hC, hcc⟩ := HRW.out i hlt
      have hll : (two xs ys i).length ≤ 1000000 := by unfold two; split <;> omega
      have hul := upto2_len xs ys i
      have hnx : (upto2 xs ys (i + 1)).length = (upto2 xs ys i).length + (two xs ys i).length := by rw [upto2_next xs ys hlt, List.length_append]
      have hlt' : (i : Int) < 2 := by omega
      have HNX := Aside0.mk hnx
      generalize (upto2 xs ys i).length = m at hul HNX ⊢
      generalize (two xs ys i).length = p at hll HNX y0 ⊢
      have hn0 : decide ((m : Int) + (p : Int) < 0) = false := decide_eq_false (by omega)
      clear hC hcc hnx
      go_wp2_with fail
      go_roundg (2 - (i + 1))
      case measure => omega
      case rel => exact ⟨i + 1, by go_num, by omega, by rw [HNX.out]; rfl, ⟨rfl⟩⟩
    · have hi2 : i = 2 := by omega
      subst hi2
      have hul : (upto2 xs ys 2).length ≤ 1000000 := Nat.le_trans (upto2_len xs ys 2) hl
      go_wp2_with fail
      refine (grow_calls (upto2 xs ys 2).length w hul).mono ?_
      rintro e w2 ⟨v6, rfl, hr, hb⟩
      have HR := Aside0.mk hr
      have HB := Aside0.mk hb
      clear hr hb
      go_wp2_with fail
      go_loopg [6, 8, 27] 2 (fun kq v6 v8 v27 wq => ∃ (i : Nat), v27 = .int .i64 i ∧ i + kq = 2 ∧ Aside0 (R3 wq w.heap.size v6 (upto2 xs ys i)) ∧ Aside0 (Below w.heap.size w wq))
      case atStart => exact ⟨0, rfl, by omega, HR, HB⟩
      case round =>
        clear HR HB
        obtain ⟨i, rfl, hi, HR, HB⟩ := hrel
        by_cases hlt : i < 2
        · obtain ⟨A, c, y0, hC, hcc⟩ := HRW.out i hlt
          have y1 := (HB.out.cell (cell_lt y0)).trans y0
          have HC1 := Aside0.mk (Kd.C_below hC HB.out)
          have hll : (two xs ys i).length ≤ 1000000 := by unfold two; split <;> omega
          have hul1 : (upto2 xs ys i).length ≤ 1000000 := Nat.le_trans (upto2_len xs ys i) hl
          have hlt' : (i : Int) < 2 := by omega
          have HNX := Aside0.mk (upto2_next xs ys hlt)
          generalize two xs ys i = rw1 at y1 HC1 hll HNX hcc
          generalize upto2 xs ys i = up1 at HR hul1 HNX
          clear y0 hC
          go_wp2_with ((with_reducible refine gate_builtin (b := .append) (xs := #[.tmp 31, .tmp 32]) rfl ?_); at_builtin; refine Kd.R_append_row (Value.int .i64) 0 (w0 := w) w.heap.size rfl (.tmp 31) (.tmp 32) 25 3 (.int .i64 0) 8 rfl Try.underlying25 info3 rfl (by decide) u6 up1 rw1 A rw1.length c (fun k => w.heap.size ≤ k) rfl rfl (fun k hk => Nat.le_trans HB.out.size hk) HR.out HC1.out HB.out HB.out.size (by omega) ?_; intro v5 w5 ho5 hb5 hg5 hat5; have HO5 := Aside0.mk ho5; have HB5 := Aside0.mk hb5; clear ho5 hb5 hg5 hat5)
          rw [← HNX.out] at HO5
          go_roundg (2 - (i + 1))
          case measure => omega
          case rel => exact ⟨i + 1, by go_num, by omega, HO5, HB5⟩
        · have hi2 : i = 2 := by omega
          subst hi2
          go_wp2_with fail
          go_ret
          exact ⟨_, rfl, HR.out, HB.out⟩
set_option maxRecDepth 100000 in
theorem all_calls (A0 A1 : Option Addr) (c0 c1 : Nat) (xs ys : List Int) (w : World) (h0 : (Kd.int .i64).C w A0 xs.length xs) (h1 : (Kd.int .i64).C w A1 ys.length ys) (hc0 : xs.length ≤ c0) (hc1 : ys.length ≤ c1) (hl : xs.length + ys.length ≤ 1000000) :
    Calls Try.prog 59 #[.agg #[.slice A0 xs.length c0, .slice A1 ys.length c1]] w fun e w' => ∃ v, e = .returned v ∧ R3 w' w.heap.size v (Wv.asc (xs ++ ys)) ∧ Below w.heap.size w w' := by
  have hu67 := Try.underlying67
  have H0 := Aside0.mk h0
  have H1 := Aside0.mk h1
  clear h0 h1
  go_enter Try.func59, Try.ntmps59
  go_wp2_with fail
  have HBw : Aside0 (Below w.heap.size w ((w.alloc (Obj.cells #[Value.slice A0 xs.length c0, Value.slice A1 ys.length c1] 67)).alloc (Obj.cells #[Value.slice A0 xs.length c0, Value.slice A1 ys.length c1] 25))) := ⟨((Below.refl _ w).alloc (Nat.le_refl _) _).alloc (by simp) _⟩
  have HBK : Aside0 (((w.alloc (Obj.cells #[Value.slice A0 xs.length c0, Value.slice A1 ys.length c1] 67)).alloc (Obj.cells #[Value.slice A0 xs.length c0, Value.slice A1 ys.length c1] 25)).heap[w.heap.size + 1]? = some (.cells #[Value.slice A0 xs.length c0, Value.slice A1 ys.length c1] 25 (0, 0))) := ⟨by
    have h := grown_new (w := w.alloc (Obj.cells #[Value.slice A0 xs.length c0, Value.slice A1 ys.length c1] 67)) #[Value.slice A0 xs.length c0, Value.slice A1 ys.length c1] 25
    rwa [World.size_alloc] at h⟩
  generalize (w.alloc (Obj.cells #[Value.slice A0 xs.length c0, Value.slice A1 ys.length c1] 67)).alloc (Obj.cells #[Value.slice A0 xs.length c0, Value.slice A1 ys.length c1] 25) = w1 at HBw HBK ⊢
  generalize w.heap.size + 1 = bb at HBK ⊢
  refine (concat_calls bb A0 A1 c0 c1 xs ys w1 HBK.out (Kd.C_below H0.out HBw.out) (Kd.C_below H1.out HBw.out) hc0 hc1 hl).mono ?_
  rintro e w2 ⟨v, rfl, hr, hb⟩
  obtain ⟨a, cap, rfl, hI⟩ := ints_own hr
  have HB2 := Aside0.mk (HBw.out.trans (hb.mono HBw.out.size))
  have HI := Aside0.mk hI
  clear hr hb hI HBw HBK
  have hzl : (xs ++ ys).length ≤ 1000000 := by rw [List.length_append]; exact hl
  clear hl
  generalize hzs : xs ++ ys = zs at HI hzl ⊢
  have HZ := Aside0.mk hzs
  clear hzs
  go_wp2_with fail
  refine ((callsIn_wide (n := 1)).1 (values_in Fence.wide 1 trivial rfl a zs.length cap w2)).mono ?_
  rintro e w3 ⟨rfl, hw⟩
  have HB3 : Aside0 (Below w.heap.size w w3) := ⟨by rw [hw]; exact HB2.out.alloc HB2.out.size _⟩
  have HI3 : Aside0 (Ints w3.heap.size w3 (.slice a zs.length cap) zs) := ⟨by
    have hb : Below w2.heap.size w2 w3 := by rw [hw]; exact (Below.refl _ w2).alloc (Nat.le_refl _) _
    rcases HI.out.below hb with h | ⟨b, off, cap', e, hb', hc⟩
    · exact .inl h
    · exact .inr ⟨b, off, cap', e, Nat.lt_of_lt_of_le hb' hb.size, hc⟩⟩
  have HC3 : Aside0 (w2.heap.size < w3.heap.size ∧ w3.cell? ⟨w2.heap.size, 0, none⟩ = some (.slice a zs.length cap)) := ⟨by
    rw [hw]
    exact ⟨by simp, (blk_cell (grown_new _ _) 0).trans rfl⟩⟩
  clear hw HI HB2
  generalize w2.heap.size = Bv at HC3 ⊢
  go_wp2_with fail
  refine (sorted_calls Bv a zs.length cap zs hzl w3 HC3.out.1 HC3.out.2 HI3.out).mono ?_
  rintro e w4 ⟨v4, rfl, hr, hb⟩
  rw [← HZ.out] at hr
  have hsz : w.heap.size ≤ w3.heap.size := HB3.out.size
  go_wp2_with fail
  go_ret
  exact ⟨_, rfl, Kd.R_mono (Kd.R_lower hr hsz) (fun k hk => Nat.le_trans hsz hk), HB3.out.trans (hb.mono hsz)⟩
end Go.Proofs.Ytkeadpichlgagaa.Me
