/- mould: the document's examples (awake), walked. -/
import Derived.Test.YtcdlccnpbhjgkaaMoU
namespace Go.Proofs.Ytcdlccnpbhjgkaa.Mo
open Go.RowKit Go.Maps Go.Proofs.YtcdlccnpbhjgkaaW.PrintWords Go.Proofs.YtcdlccnpbhjgkaaW.PrintLast Go.Proofs.YtcdlccnpbhjgkaaW.PrintMore
open Go.Proofs.Ytcdlccnpbhjgkaa.PMouldPuts Go.Proofs.Ytcdlccnpbhjgkaa.Mp
set_option linter.unusedVariables false
set_option linter.unusedSimpArgs false

theorem C33_new (w : World) (ps : List S33) (inner : List Value) (hr : Reps (k33.K w) 3 ps inner) (hm : ps.length ≤ 9223372036854775807) : k33.C (w.alloc (.cells inner.toArray 33)) (some ⟨w.heap.size, 0, none⟩) ps.length ps := by
  have h := OwnRow.lit (e := 33) w w.heap.size hr (Nat.le_refl _) hm
  obtain ⟨A, c, he, _, hC⟩ := h.reads
  cases he
  exact hC.imp_ (Below.refl _ _) (fun p c hp => k33.K_below ((Below.refl _ _).alloc (Nat.le_refl _) _) hp)
theorem K33_flat (w : World) (n : Int) : k33.K w ⟨n, [], []⟩ [.int .u64 n, .slice none 0 0, .slice none 0 0] :=
  k33_mk w ⟨n, [], []⟩ (A1 := none) (c1 := 0) (Nat.le_refl _) (Kd.C_nil _ _) (A2 := none) (c2 := 0) (Nat.le_refl _) (Kd.C_nil _ _)
theorem reps33 {w : World} {x : S33} {cs : List Value} (h : k33.K w x cs) : Reps (k33.K w) 3 [x] cs := by
  have := Reps.snoc (Reps.none (k33.K w) 3) h (k33.K_len h)
  simpa using this
theorem CStr_new (w : World) (x : ByteArray) : Kd.string.C (w.alloc (.cells #[.string x] 9)) (some ⟨w.heap.size, 0, none⟩) 1 [x] := by
  have hr : Reps (Kd.string.K w) 1 [x] [.string x] := by
    have := Reps.snoc (Reps.none (Kd.string.K w) 1) (p := x) (c := [.string x]) rfl rfl
    simpa using this
  have h := OwnRow.lit (e := 9) w w.heap.size hr (Nat.le_refl _) (by simp)
  obtain ⟨A, c, he, _, hC⟩ := h.reads
  cases he
  exact hC.imp_ (Below.refl _ _) (fun p c hp => Kd.string.K_below ((Below.refl _ _).alloc (Nat.le_refl _) _) hp)
/-- Put, of values that are of the shape. -/
theorem put_ok {l : List UInt8} {vs : List S33} {k : Sh} {out : List Int} {w : World} {e : Ending} {w' : World} (h : PutTopQ l vs w e w') (hp : parseF l = some k) (hh : vs.all (hasS k) = true) (ho : (vs.map (putS k)).flatten = out) :
    Below w.heap.size w w' ∧ ∃ A c, e = .returned (.tuple #[.slice A out.length c, .int .i64 0]) ∧ out.length ≤ c ∧ (Kd.int .u8).C w' A out.length out := by
  obtain ⟨hB, h | ⟨k', h1, h2, h3⟩ | ⟨k', v0, h1, h2, h3, h4⟩⟩ := h
  · rw [h.1] at hp; cases hp
  · rw [hp] at h1; cases h1; rw [hh] at h2; cases h2
  · rw [hp] at h1; cases h1
    rw [ho] at h4
    obtain ⟨A, c, rfl, hc, hC⟩ := Kd.R_reads h4
    exact ⟨hB, A, c, h3, hc, hC⟩
theorem take_ok {r : S33 × Int} {w : World} {E : Ending} {w' : World} (h : TakeTopQ r w E w') :
    Below w.heap.size w w' ∧ ∃ A1 c1 A2 c2, E = .returned (.tuple #[.agg #[.int .u64 r.1.f0, .slice A1 r.1.f1.length c1, .slice A2 r.1.f2.length c2], .int .i64 r.2]) ∧ r.1.f1.length ≤ c1 ∧ (Kd.int .u8).C w' A1 r.1.f1.length r.1.f1 ∧ r.1.f2.length ≤ c2 ∧ k33.C w' A2 r.1.f2.length r.1.f2 := by
  obtain ⟨hB, u1, u2, he, hM⟩ := h
  obtain ⟨v1, v2, e0, hR1, hR2⟩ := k33_openM hM
  obtain ⟨A1, c1, rfl, h1, h2⟩ := Kd.R_reads hR1
  obtain ⟨A2, c2, rfl, h3, h4⟩ := Kd.R_reads hR2
  cases e0
  exact ⟨hB, A1, c1, A2, c2, he, h1, h2, h3, h4⟩
theorem wf_flat {n : Int} (h0 : 0 ≤ n) (h1 : n < 18446744073709551616) : WfS ⟨n, [], []⟩ := .mk h0 h1 (fun x hx => by simp at hx)
theorem p_n : parseF [110] = some (.mk 110 []) := by rfl
theorem p_row : parseF [91, 110, 98, 93] = some (.mk 91 [.mk 110 [], .mk 98 []]) := by rfl
theorem p_ln : parseF [42, 110] = some (.mk 42 [.mk 110 []]) := by rfl
theorem t_1 : takeTop [110] [2, 0, 1] = (⟨0, [], []⟩, 13) := by rfl
theorem t_2 : takeTop [42, 110] [1, 2, 1, 1, 0] = (⟨0, [], [⟨1, [], []⟩, ⟨0, [], []⟩]⟩, 0) := by rfl
theorem o_1 : putS (.mk 110 []) ⟨258, [], []⟩ = [2, 1, 2] := by rfl
theorem o_2 : putS (.mk 91 [.mk 110 [], .mk 98 []]) ⟨0, [], [⟨7, [], []⟩, ⟨0, [], []⟩]⟩ = [1, 7, 0] := by rfl
theorem h_2 : hasS (.mk 91 [.mk 110 [], .mk 98 []]) ⟨0, [], [⟨7, [], []⟩, ⟨0, [], []⟩]⟩ = true := by rfl
theorem r_1 : okS ⟨#[91, 93]⟩ = true := by rfl
theorem r_2 : okS ⟨#[42]⟩ = false := by rfl

abbrev n258 : Obj := .cells #[.int .u64 258, .slice none 0 0, .slice none 0 0] 33
theorem byt_3 {a b c : Int} (h : 0 ≤ a ∧ a ≤ 255 ∧ 0 ≤ b ∧ b ≤ 255 ∧ 0 ≤ c ∧ c ≤ 255) : Byt [a, b, c] := fun x hx => by
  simp at hx
  omega
set_option maxHeartbeats 2000000 in
set_option maxRecDepth 100000 in
theorem awake_calls (w : World) : Calls Try.prog 14 #[] w fun e w' => e = .returned (.bool true) ∧ Below w.heap.size w w' := by
  have HP1 : Aside0 (Calls Try.prog 17 #[.string (str [110]), .slice (some ⟨w.heap.size, 0, none⟩) 1 1] (w.alloc n258) (PutTopQ [110] [⟨258, [], []⟩] (w.alloc n258))) :=
    ⟨Put_calls [110] [⟨258, [], []⟩] _ 1 _ (C33_new w [⟨258, [], []⟩] _ (reps33 (K33_flat w 258)) (by simp)) (by simp) (fun v hv => by simp at hv; subst hv; exact wf_flat (by decide) (by decide)) (fun k hk => by rw [p_n] at hk; cases hk; simp [o_1])⟩
  have HB1 : Aside0 (Below w.heap.size w (w.alloc n258)) := ⟨(Below.refl _ _).alloc (Nat.le_refl _) _⟩
  go_enter Try.func14, Try.ntmps14
  go_wp2_with fail
  refine HP1.out.mono ?_
  rintro e w1 hq
  obtain ⟨hB, A1, c1, rfl, hc1, hC1⟩ := put_ok hq p_n (by rfl) (show _ = [2, 1, 2] by rfl)
  have HB2 := Aside0.mk (HB1.out.trans (hB.mono HB1.out.size))
  have HC1 := Aside0.mk hC1
  clear hq hB hc1 hC1 HP1 HB1
  have hA := World.size_alloc w1 (.cells #[.int .u64 7, .slice none 0 0, .slice none 0 0, .int .u64 0, .slice none 0 0, .slice none 0 0] 33)
  have HC2 : Aside0 (k33.C (w1.alloc (.cells #[.int .u64 7, .slice none 0 0, .slice none 0 0, .int .u64 0, .slice none 0 0, .slice none 0 0] 33)) (some ⟨w1.heap.size, 0, none⟩) 2 [⟨7, [], []⟩, ⟨0, [], []⟩]) :=
    ⟨C33_new w1 [⟨7, [], []⟩, ⟨0, [], []⟩] _ (by have := Reps.snoc (reps33 (K33_flat w1 7)) (K33_flat w1 0) rfl; exact this) (by simp)⟩
  have HB3 : Aside0 (Below w.heap.size w (w1.alloc (.cells #[.int .u64 7, .slice none 0 0, .slice none 0 0, .int .u64 0, .slice none 0 0, .slice none 0 0] 33))) := ⟨HB2.out.alloc HB2.out.size _⟩
  have HP2 : Aside0 (Calls Try.prog 17 #[.string (str [91, 110, 98, 93]), .slice (some ⟨w1.heap.size + 1, 0, none⟩) 1 1] ((w1.alloc (.cells #[.int .u64 7, .slice none 0 0, .slice none 0 0, .int .u64 0, .slice none 0 0, .slice none 0 0] 33)).alloc (.cells #[.int .u64 0, .slice none 0 0, .slice (some ⟨w1.heap.size, 0, none⟩) 2 2] 33)) (PutTopQ [91, 110, 98, 93] [⟨0, [], [⟨7, [], []⟩, ⟨0, [], []⟩]⟩] ((w1.alloc (.cells #[.int .u64 7, .slice none 0 0, .slice none 0 0, .int .u64 0, .slice none 0 0, .slice none 0 0] 33)).alloc (.cells #[.int .u64 0, .slice none 0 0, .slice (some ⟨w1.heap.size, 0, none⟩) 2 2] 33)))) := ⟨by
    have hC := C33_new (w1.alloc (.cells #[.int .u64 7, .slice none 0 0, .slice none 0 0, .int .u64 0, .slice none 0 0, .slice none 0 0] 33)) [⟨0, [], [⟨7, [], []⟩, ⟨0, [], []⟩]⟩] _ (reps33 (k33_mk _ ⟨0, [], [⟨7, [], []⟩, ⟨0, [], []⟩]⟩ (A1 := none) (c1 := 0) (Nat.le_refl _) (Kd.C_nil _ _) (A2 := some ⟨w1.heap.size, 0, none⟩) (c2 := 2) (Nat.le_refl _) HC2.out)) (by simp)
    rw [hA] at hC
    refine Put_calls [91, 110, 98, 93] [⟨0, [], [⟨7, [], []⟩, ⟨0, [], []⟩]⟩] _ 1 _ hC (by simp) (fun v hv => ?_) (fun k hk => by rw [p_row] at hk; cases hk; simp [o_2])
    simp at hv
    subst hv
    refine .mk (by decide) (by decide) (fun x hx => ?_)
    simp at hx
    rcases hx with rfl | rfl
    · exact wf_flat (by decide) (by decide)
    · exact wf_flat (by decide) (by decide)⟩
  have HB4 : Aside0 (Below w.heap.size w ((w1.alloc (.cells #[.int .u64 7, .slice none 0 0, .slice none 0 0, .int .u64 0, .slice none 0 0, .slice none 0 0] 33)).alloc (.cells #[.int .u64 0, .slice none 0 0, .slice (some ⟨w1.heap.size, 0, none⟩) 2 2] 33))) := ⟨HB3.out.alloc HB3.out.size _⟩
  have HC1w : Aside0 ((Kd.int .u8).C ((w1.alloc (.cells #[.int .u64 7, .slice none 0 0, .slice none 0 0, .int .u64 0, .slice none 0 0, .slice none 0 0] 33)).alloc (.cells #[.int .u64 0, .slice none 0 0, .slice (some ⟨w1.heap.size, 0, none⟩) 2 2] 33)) A1 3 [2, 1, 2]) := ⟨Kd.C_alloc (Kd.C_alloc HC1.out _) _⟩
  clear hA HC2 HB3 HC1
  go_wp2_with fail
  refine HP2.out.mono ?_
  rintro e w2 hq
  obtain ⟨hB, A2, c2, rfl, hc2, hC2⟩ := put_ok hq p_row (by rfl) (show _ = [1, 7, 0] by rfl)
  have HBa := Aside0.mk (HB4.out.trans (hB.mono HB4.out.size))
  have HC1a := Aside0.mk (Kd.C_below HC1w.out hB)
  have HC2a := Aside0.mk hC2
  clear hq hB hc2 hC2 HP2 HB4 HC1w HB2
  have HT1 : Aside0 (Calls Try.prog 19 #[.string (str [110]), .slice (some ⟨w2.heap.size, 0, none⟩) 3 3] (w2.alloc (.cells #[.int .u8 2, .int .u8 0, .int .u8 1] 5)) (TakeTopQ (takeTop [110] [2, 0, 1]) (w2.alloc (.cells #[.int .u8 2, .int .u8 0, .int .u8 1] 5)))) :=
    ⟨taketop_calls [110] [2, 0, 1] _ 3 _ (C_of_blk (xs := [2, 0, 1]) (ys := []) (blk_new w2 (.cells #[.int .u8 2, .int .u8 0, .int .u8 1] 5)) (by simp)) (by simp) (byt_3 (by decide)) (by simp)⟩
  have HBb : Aside0 (Below w.heap.size w (w2.alloc (.cells #[.int .u8 2, .int .u8 0, .int .u8 1] 5))) := ⟨HBa.out.alloc HBa.out.size _⟩
  have HC1b : Aside0 ((Kd.int .u8).C (w2.alloc (.cells #[.int .u8 2, .int .u8 0, .int .u8 1] 5)) A1 3 [2, 1, 2]) := ⟨Kd.C_alloc HC1a.out _⟩
  have HC2b : Aside0 ((Kd.int .u8).C (w2.alloc (.cells #[.int .u8 2, .int .u8 0, .int .u8 1] 5)) A2 3 [1, 7, 0]) := ⟨Kd.C_alloc HC2a.out _⟩
  clear HBa HC1a HC2a
  go_wp2_with fail
  refine HT1.out.mono ?_
  rintro e w3 hq
  obtain ⟨hB, B1, d1, B2, d2, rfl, _, _, _, _⟩ := take_ok hq
  have HBc := Aside0.mk (HBb.out.trans (hB.mono HBb.out.size))
  have HC1c := Aside0.mk (Kd.C_below HC1b.out hB)
  have HC2c := Aside0.mk (Kd.C_below HC2b.out hB)
  clear hq hB HT1 HBb HC1b HC2b
  rw [t_1]
  have hA := World.size_alloc w3 (.cells #[.int .u64 0, .slice B1 0 d1, .slice B2 0 d2] 33)
  have HBd : Aside0 (Below w.heap.size w (w3.alloc (.cells #[.int .u64 0, .slice B1 0 d1, .slice B2 0 d2] 33))) := ⟨HBc.out.alloc HBc.out.size _⟩
  have HT2 : Aside0 (Calls Try.prog 19 #[.string (str [42, 110]), .slice (some ⟨w3.heap.size + 1, 0, none⟩) 5 5] ((w3.alloc (.cells #[.int .u64 0, .slice B1 0 d1, .slice B2 0 d2] 33)).alloc (.cells #[.int .u8 1, .int .u8 2, .int .u8 1, .int .u8 1, .int .u8 0] 5)) (TakeTopQ (takeTop [42, 110] [1, 2, 1, 1, 0]) ((w3.alloc (.cells #[.int .u64 0, .slice B1 0 d1, .slice B2 0 d2] 33)).alloc (.cells #[.int .u8 1, .int .u8 2, .int .u8 1, .int .u8 1, .int .u8 0] 5)))) := ⟨by
    have hC := C_of_blk (k := .u8) (xs := [1, 2, 1, 1, 0]) (ys := []) (blk_new (w3.alloc (.cells #[.int .u64 0, .slice B1 0 d1, .slice B2 0 d2] 33)) (.cells #[.int .u8 1, .int .u8 2, .int .u8 1, .int .u8 1, .int .u8 0] 5)) (by simp)
    rw [hA] at hC
    exact taketop_calls [42, 110] [1, 2, 1, 1, 0] _ 5 _ hC (by simp) (fun x hx => by simp at hx; omega) (by simp)⟩
  have HBe : Aside0 (Below w.heap.size w ((w3.alloc (.cells #[.int .u64 0, .slice B1 0 d1, .slice B2 0 d2] 33)).alloc (.cells #[.int .u8 1, .int .u8 2, .int .u8 1, .int .u8 1, .int .u8 0] 5))) := ⟨HBd.out.alloc HBd.out.size _⟩
  have HC1e : Aside0 ((Kd.int .u8).C ((w3.alloc (.cells #[.int .u64 0, .slice B1 0 d1, .slice B2 0 d2] 33)).alloc (.cells #[.int .u8 1, .int .u8 2, .int .u8 1, .int .u8 1, .int .u8 0] 5)) A1 3 [2, 1, 2]) := ⟨Kd.C_alloc (Kd.C_alloc HC1c.out _) _⟩
  have HC2e : Aside0 ((Kd.int .u8).C ((w3.alloc (.cells #[.int .u64 0, .slice B1 0 d1, .slice B2 0 d2] 33)).alloc (.cells #[.int .u8 1, .int .u8 2, .int .u8 1, .int .u8 1, .int .u8 0] 5)) A2 3 [1, 7, 0]) := ⟨Kd.C_alloc (Kd.C_alloc HC2c.out _) _⟩
  clear hA HBc HBd HC1c HC2c
  go_wp2_with fail
  refine HT2.out.mono ?_
  rintro e w4 hq
  obtain ⟨hB, B3, d3, B4, d4, rfl, _, _, _, hC4⟩ := take_ok hq
  rw [t_2] at hC4 ⊢
  simp only [List.length_cons, List.length_nil, Nat.zero_add, Nat.reduceAdd] at hC4 ⊢
  have hA : Below w4.heap.size w4 (w4.alloc (.cells #[.int .u64 0, .slice B3 0 d3, .slice B4 2 d4] 33)) := (Below.refl _ _).alloc (Nat.le_refl _) _
  have HBf := Aside0.mk (HBe.out.trans (hB.mono HBe.out.size))
  have HBg : Aside0 (Below w.heap.size w (w4.alloc (.cells #[.int .u64 0, .slice B3 0 d3, .slice B4 2 d4] 33))) := ⟨HBf.out.alloc HBf.out.size _⟩
  have HC1g := Aside0.mk (Kd.C_below (Kd.C_below HC1e.out hB) hA)
  have HC2g := Aside0.mk (Kd.C_below (Kd.C_below HC2e.out hB) hA)
  obtain ⟨ad, E1, e1, E2, e2, rfl, x0, _, _, _⟩ := at_T33 (Kd.C_below hC4 hA) 0 (by omega) (by decide)
  have x0' : (w4.alloc (.cells #[.int .u64 0, .slice B3 0 d3, .slice (some ad) 2 d4] 33)).cell? ad = some (.int .u64 1) := x0
  have hN := blk_new w4 (.cells #[.int .u64 0, .slice B3 0 d3, .slice (some ad) 2 d4] 33)
  clear x0 hq hB HT2 HBe HC1e HC2e hA hC4 HBf
  go_upto_region 5 with fail
  generalize w4.alloc (.cells #[.int .u64 0, .slice B3 0 d3, .slice (some ad) 2 d4] 33) = W5 at *
  have n2 : W5.cell? ⟨w4.heap.size, 2, none⟩ = some (.slice (some ad) 2 d4) := (blk_cell hN 2).trans rfl
  have s1 := run_str (P := Try.prog) Try.underlying27 Try.underlying5 Try.underlying9 HC1g.out c1
  have s2 := run_str (P := Try.prog) Try.underlying27 Try.underlying5 Try.underlying9 HC2g.out c2
  have e1 : strOfNums [2, 1, 2] = ⟨#[2, 1, 2]⟩ := by rfl
  have e2 : strOfNums [1, 7, 0] = ⟨#[1, 7, 0]⟩ := by rfl
  rw [e1] at s1
  rw [e2] at s2
  have HR1 := Aside0.mk (right_calls _ 1 1 _ _ (CStr_new W5 ⟨#[91, 93]⟩))
  have HG2 : Aside0 (Below w.heap.size w (W5.alloc (.cells #[.string ⟨#[91, 93]⟩] 9))) := ⟨HBg.out.alloc HBg.out.size _⟩
  have hr1 : [(⟨#[91, 93]⟩ : ByteArray)].all okS = true := by rfl
  rw [hr1] at HR1
  clear hN e1 e2 hr1
  go_wp2_with fail
  refine HR1.out.mono ?_
  rintro e w6 ⟨rfl, hB⟩
  have HBh := Aside0.mk (HG2.out.trans (hB.mono HG2.out.size))
  have HR2 := Aside0.mk (right_calls _ 1 1 _ _ (CStr_new w6 ⟨#[42]⟩))
  have hr2 : [(⟨#[42]⟩ : ByteArray)].all okS = false := by rfl
  rw [hr2] at HR2
  have HG3 : Aside0 (Below w.heap.size w (w6.alloc (.cells #[.string ⟨#[42]⟩] 9))) := ⟨HBh.out.alloc HBh.out.size _⟩
  clear hr2 hB HR1 s1 s2 n2 x0'
  go_wp2_with fail
  refine HR2.out.mono ?_
  rintro e w7 ⟨rfl, hB⟩
  have HBi := Aside0.mk (HG3.out.trans (hB.mono HG3.out.size))
  clear hB HR2
  go_wp2_with fail
  go_ret
  exact ⟨rfl, HBi.out⟩
end Go.Proofs.Ytcdlccnpbhjgkaa.Mo
