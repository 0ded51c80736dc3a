/- wave: the awake of the laws, walked. -/
import Derived.Test.YtkeadpichlgagaaWvO
namespace Go.Proofs.Ytkeadpichlgagaa.Wv
open Go.RowKit Go.Maps Go.Proofs.YtkeadpichlgagaaW.PrintWords Go.Proofs.YtkeadpichlgagaaW.PrintLast Go.Proofs.YtkeadpichlgagaaW.PrintMore
open Go.Proofs.Ytkeadpichlgagaa.PWaveReady Go.Proofs.Ytkeadpichlgagaa.Mp
set_option linter.unusedVariables false
set_option linter.unusedSimpArgs false
set_option linter.unnecessarySimpa false

/-- A block of slices, read as rows of numbers. -/
theorem GC_of_blk {w : World} {g : Nat} {f : Nat × Nat} (G : Gr) (ps : List (Option Addr × Nat)) (hl : ps.length = G.length) (hG : G.length ≤ 1000000)
    (h : w.heap[g]? = some (.cells (List.zipWith (fun (p : Option Addr × Nat) (l : List Int) => Value.slice p.1 l.length p.2) ps G).toArray 25 f))
    (hin : ∀ (i : Nat) (h : i < G.length), G[i].length ≤ (ps.getD i (none, 0)).2 ∧ (Kd.int .i64).C w (ps.getD i (none, 0)).1 G[i].length G[i]) : GC w (some ⟨g, 0, none⟩) G := by
  refine ⟨rfl, by omega, fun _ => ⟨_, rfl, fun j p hp => ?_⟩⟩
  obtain ⟨hj, rfl⟩ := List.getElem?_eq_some_iff.1 hp
  obtain ⟨h1, h2⟩ := hin j hj
  refine ⟨[.slice (ps.getD j (none, 0)).1 G[j].length (ps.getD j (none, 0)).2], rfl, ⟨_, _, rfl, h1, h2⟩, fun i u hu => ?_⟩
  obtain rfl : i = 0 := by have := (List.getElem?_eq_some_iff.1 hu).1; simpa using this
  obtain rfl : Value.slice (ps.getD j (none, 0)).1 G[j].length (ps.getD j (none, 0)).2 = u := by simpa using hu
  have e : (⟨g, 0, none⟩ : Addr).add (j * (Kd.slice 3 (Kd.int .i64)).sz + 0) = ⟨g, j, none⟩ := by
    rw [add_plain]
    have : (Kd.slice 3 (Kd.int .i64)).sz = 1 := rfl
    rw [this]; simp
  rw [e]
  have := cell_of_row w g j _ 25 f h
  rw [this]
  have hj' : j < ps.length := by omega
  simp [List.getElem?_zipWith, hj, hj', List.getD_eq_getElem?_getD]

theorem C_blk {w : World} {g : Nat} {xs : List Int} {f : Nat × Nat} (h : w.heap[g]? = some (.cells (xs.map (Value.int .i64)).toArray 3 f)) (hl : xs.length ≤ 1000000) : (Kd.int .i64).C w (some ⟨g, 0, none⟩) xs.length xs :=
  C_of_blk (ys := []) (by rw [List.append_nil]; exact h) (by omega)

theorem Cb_blk {w : World} {g : Nat} {t : TypeId} {xs : List Bool} {f : Nat × Nat} (h : w.heap[g]? = some (.cells (xs.map Value.bool).toArray t f)) (hl : xs.length ≤ 1000000) : Kd.bool.C w (some ⟨g, 0, none⟩) xs.length xs := by
  refine ⟨rfl, by omega, fun _ => ⟨_, rfl, fun j p hp => ⟨[.bool p], rfl, rfl, fun i u hu => ?_⟩⟩⟩
  obtain rfl : i = 0 := by have := (List.getElem?_eq_some_iff.1 hu).1; simpa using this
  obtain rfl : Value.bool p = u := by simpa using hu
  have hj : j < xs.length := (List.getElem?_eq_some_iff.1 hp).1
  have e : (⟨g, 0, none⟩ : Addr).add (j * Kd.bool.sz + 0) = ⟨g, j, none⟩ := by
    rw [add_plain]
    have : Kd.bool.sz = 1 := rfl
    rw [this]; simp
  rw [e]
  have := cell_of_row w g j _ t f h
  rw [this, List.getElem?_toArray, List.getElem?_map, hp]; rfl
theorem ints_calls (A0 : Option Addr) (c0 : Nat) (xs : List Int) (A1 : Option Addr) (c1 : Nat) (ys : List Int) (w : World) (h0 : (Kd.int .i64).C w A0 xs.length xs) (hc0 : xs.length ≤ c0) (h1 : (Kd.int .i64).C w A1 ys.length ys) (hc1 : ys.length ≤ c1) (hl : xs.length ≤ 1000000000) :
    Calls Try.prog 21 #[.slice A0 xs.length c0, .slice A1 ys.length c1] w fun e w' => e = .returned (.bool (decide (xs = ys))) ∧ Below w.heap.size w w' := by
  obtain ⟨k, hk⟩ := (ints_ev xs ys hl).rounds
  refine (echelonlaw14_ints.calls k A0 c0 xs A1 c1 ys _ w h0 hc0 h1 hc1 hk).mono fun e w' ⟨he, hd⟩ => ⟨he, ?_⟩
  obtain ⟨n, rfl⟩ := hd.out
  exact pw_below_drewN (Below.refl _ _) _

def G4 : Gr := [[], [0], [0], [2, 1]]
def G2 : Gr := [[1], [0]]
def G1 : Gr := [[0]]
theorem rowl {b : World} {o : Obj} {g : Nat} (h : b.heap[g]? = some o) (o' : Obj) : (b.alloc o').heap[g]? = some o := blk_alloc h o'
theorem g4_is (w : World) : GC (((((w.alloc (.cells #[] 3)).alloc (.cells #[.int .i64 0] 3)).alloc (.cells #[.int .i64 0] 3)).alloc (.cells #[.int .i64 2, .int .i64 1] 3)).alloc
      (.cells #[.slice (some ⟨w.heap.size, 0, none⟩) 0 0, .slice (some ⟨w.heap.size + 1, 0, none⟩) 1 1, .slice (some ⟨w.heap.size + 1 + 1, 0, none⟩) 1 1, .slice (some ⟨w.heap.size + 1 + 1 + 1, 0, none⟩) 2 2] 25)) (some ⟨w.heap.size + 1 + 1 + 1 + 1, 0, none⟩) G4 := by
  have e1 : ∀ (w : World) o, (w.alloc o).heap.size = w.heap.size + 1 := fun w o => by simp
  have b0 := blk_new w (.cells #[] 3)
  have b1 := blk_new (w.alloc (.cells #[] 3)) (.cells #[.int .i64 0] 3)
  have b2 := blk_new ((w.alloc (.cells #[] 3)).alloc (.cells #[.int .i64 0] 3)) (.cells #[.int .i64 0] 3)
  have b3 := blk_new (((w.alloc (.cells #[] 3)).alloc (.cells #[.int .i64 0] 3)).alloc (.cells #[.int .i64 0] 3)) (.cells #[.int .i64 2, .int .i64 1] 3)
  have b4 := blk_new ((((w.alloc (.cells #[] 3)).alloc (.cells #[.int .i64 0] 3)).alloc (.cells #[.int .i64 0] 3)).alloc (.cells #[.int .i64 2, .int .i64 1] 3)) (.cells #[.slice (some ⟨w.heap.size, 0, none⟩) 0 0, .slice (some ⟨w.heap.size + 1, 0, none⟩) 1 1, .slice (some ⟨w.heap.size + 1 + 1, 0, none⟩) 1 1, .slice (some ⟨w.heap.size + 1 + 1 + 1, 0, none⟩) 2 2] 25)
  simp only [e1] at b1 b2 b3 b4
  refine GC_of_blk G4 [(some ⟨w.heap.size, 0, none⟩, 0), (some ⟨w.heap.size + 1, 0, none⟩, 1), (some ⟨w.heap.size + 1 + 1, 0, none⟩, 1), (some ⟨w.heap.size + 1 + 1 + 1, 0, none⟩, 2)] rfl (by decide) b4 (fun i hi => ?_)
  match i, hi with
  | 0, _ => exact ⟨Nat.le_refl _, C_blk (xs := []) (rowl (rowl (rowl (rowl b0 _) _) _) _) (by decide)⟩
  | 1, _ => exact ⟨Nat.le_refl _, C_blk (xs := [0]) (rowl (rowl (rowl b1 _) _) _) (by decide)⟩
  | 2, _ => exact ⟨Nat.le_refl _, C_blk (xs := [0]) (rowl (rowl b2 _) _) (by decide)⟩
  | 3, _ => exact ⟨Nat.le_refl _, C_blk (xs := [2, 1]) (rowl b3 _) (by decide)⟩
theorem g2_is (w : World) : GC (((w.alloc (.cells #[.int .i64 1] 3)).alloc (.cells #[.int .i64 0] 3)).alloc
      (.cells #[.slice (some ⟨w.heap.size, 0, none⟩) 1 1, .slice (some ⟨w.heap.size + 1, 0, none⟩) 1 1] 25)) (some ⟨w.heap.size + 1 + 1, 0, none⟩) G2 := by
  have e1 : ∀ (w : World) o, (w.alloc o).heap.size = w.heap.size + 1 := fun w o => by simp
  have b0 := blk_new w (.cells #[.int .i64 1] 3)
  have b1 := blk_new (w.alloc (.cells #[.int .i64 1] 3)) (.cells #[.int .i64 0] 3)
  have b2 := blk_new ((w.alloc (.cells #[.int .i64 1] 3)).alloc (.cells #[.int .i64 0] 3)) (.cells #[.slice (some ⟨w.heap.size, 0, none⟩) 1 1, .slice (some ⟨w.heap.size + 1, 0, none⟩) 1 1] 25)
  simp only [e1] at b1 b2
  refine GC_of_blk G2 [(some ⟨w.heap.size, 0, none⟩, 1), (some ⟨w.heap.size + 1, 0, none⟩, 1)] rfl (by decide) b2 (fun i hi => ?_)
  match i, hi with
  | 0, _ => exact ⟨Nat.le_refl _, C_blk (xs := [1]) (rowl (rowl b0 _) _) (by decide)⟩
  | 1, _ => exact ⟨Nat.le_refl _, C_blk (xs := [0]) (rowl b1 _) (by decide)⟩
theorem g1_is (w : World) : GC ((w.alloc (.cells #[.int .i64 0] 3)).alloc (.cells #[.slice (some ⟨w.heap.size, 0, none⟩) 1 1] 25)) (some ⟨w.heap.size + 1, 0, none⟩) G1 := by
  have e1 : ∀ (w : World) o, (w.alloc o).heap.size = w.heap.size + 1 := fun w o => by simp
  have b0 := blk_new w (.cells #[.int .i64 0] 3)
  have b1 := blk_new (w.alloc (.cells #[.int .i64 0] 3)) (.cells #[.slice (some ⟨w.heap.size, 0, none⟩) 1 1] 25)
  simp only [e1] at b1
  refine GC_of_blk G1 [(some ⟨w.heap.size, 0, none⟩, 1)] rfl (by decide) b1 (fun i hi => ?_)
  match i, hi with
  | 0, _ => exact ⟨Nat.le_refl _, C_blk (xs := [0]) (rowl b0 _) (by decide)⟩
theorem gsz_of (G : Gr) (h : (decide (G.length ≤ 10000) && G.all (fun l => decide (l.length ≤ 1000000))) = true) : Gsz G := by
  rw [Bool.and_eq_true, decide_eq_true_eq, List.all_eq_true] at h
  exact ⟨h.1, fun y hy => by rw [row_at G hy]; exact of_decide_eq_true (h.2 _ (List.getElem_mem hy))⟩

set_option maxHeartbeats 4000000 in
set_option maxRecDepth 100000 in
theorem awake_calls (w : World) : Calls Try.prog 16 #[] w fun e w' => e = .returned (.bool true) ∧ Below w.heap.size w w' := by
  have HG := Aside0.mk (g4_is w)
  have HB0 : Aside0 (Below w.heap.size w (((((w.alloc (.cells #[] 3)).alloc (.cells #[.int .i64 0] 3)).alloc (.cells #[.int .i64 0] 3)).alloc (.cells #[.int .i64 2, .int .i64 1] 3)).alloc
      (.cells #[.slice (some ⟨w.heap.size, 0, none⟩) 0 0, .slice (some ⟨w.heap.size + 1, 0, none⟩) 1 1, .slice (some ⟨w.heap.size + 1 + 1, 0, none⟩) 1 1, .slice (some ⟨w.heap.size + 1 + 1 + 1, 0, none⟩) 2 2] 25))) := ⟨below_alloc (below_alloc (below_alloc (below_alloc (below_alloc (Below.refl _ _) _) _) _) _) _⟩
  go_enter Try.func16, Try.ntmps16
  go_wp2_with fail
  generalize ((((w.alloc (.cells #[] 3)).alloc (.cells #[.int .i64 0] 3)).alloc (.cells #[.int .i64 0] 3)).alloc (.cells #[.int .i64 2, .int .i64 1] 3)).alloc
      (.cells #[.slice (some ⟨w.heap.size, 0, none⟩) 0 0, .slice (some ⟨w.heap.size + 1, 0, none⟩) 1 1, .slice (some ⟨w.heap.size + 1 + 1, 0, none⟩) 1 1, .slice (some ⟨w.heap.size + 1 + 1 + 1, 0, none⟩) 2 2] 25) = wg at HG HB0 ⊢
  generalize w.heap.size + 1 + 1 + 1 + 1 = gg at HG ⊢
  have HZ4 : Aside0 (Gsz G4) := ⟨gsz_of G4 (by decide +kernel)⟩
  refine (worder_calls (some ⟨gg, 0, none⟩) 4 G4 wg HG.out (by decide) HZ4.out).mono ?_
  rintro e w1 ⟨va, rfl, hva, hb⟩
  rw [show ordR G4 = ([0, 1, 2, 3], 0) from by decide +kernel] at hva ⊢
  have HVA := Aside0.mk hva
  have HB1 := Aside0.mk hb
  clear hva hb
  go_wp2_with fail
  refine (levels_calls (some ⟨gg, 0, none⟩) 4 G4 w1 (Kd.C_below HG.out HB1.out) (by decide) HZ4.out).mono ?_
  rintro e w2 ⟨vb, rfl, hvb, hb⟩
  rw [show ordE G4 = 0 from by decide +kernel]
  rw [show levR G4 = [0, 1, 1, 2] from by decide +kernel] at hvb
  have HVB := Aside0.mk hvb
  have HVA2 := Aside0.mk (Kd.R_below HVA.out hb)
  have HB2 := Aside0.mk (HB1.out.trans (hb.mono HB1.out.size))
  clear hvb hb HVA
  obtain ⟨Aa, ca, rfl⟩ := Kd.R_slice HVA2.out
  obtain ⟨Ab, cb, rfl⟩ := Kd.R_slice HVB.out
  go_wp2_with fail
  have HL1 := Aside0.mk (C_blk (xs := [0, 1, 2, 3]) (blk_new w2 (.cells #[.int .i64 0, .int .i64 1, .int .i64 2, .int .i64 3] 3)) (by decide))
  have HB3 := Aside0.mk (HB2.out.alloc HB2.out.size (.cells #[.int .i64 0, .int .i64 1, .int .i64 2, .int .i64 3] 3))
  have HVA3 := Aside0.mk (Kd.R_alloc HVA2.out (.cells #[.int .i64 0, .int .i64 1, .int .i64 2, .int .i64 3] 3))
  have HVB3 := Aside0.mk (Kd.R_alloc HVB.out (.cells #[.int .i64 0, .int .i64 1, .int .i64 2, .int .i64 3] 3))
  clear HVA2 HVB HB1 HB2
  generalize w2.alloc (.cells #[.int .i64 0, .int .i64 1, .int .i64 2, .int .i64 3] 3) = w3 at HL1 HB3 HVA3 HVB3 ⊢
  have pa := Kd.R_reads' HVA3.out
  refine (ints_calls Aa ca [0, 1, 2, 3] _ 4 [0, 1, 2, 3] w3 pa.2.2 pa.2.1 HL1.out (by decide) (by decide)).mono ?_
  clear pa
  rintro e w4 ⟨rfl, hb⟩
  rw [show decide (([0, 1, 2, 3] : List Int) = [0, 1, 2, 3]) = true from by decide]
  have HB4 := Aside0.mk (HB3.out.trans (hb.mono HB3.out.size))
  have HVB4 := Aside0.mk (Kd.R_below HVB3.out hb)
  clear hb HL1 HVA3 HVB3 HB3
  go_wp2_with fail
  have HL1 := Aside0.mk (C_blk (xs := [0, 1, 1, 2]) (blk_new w4 (.cells #[.int .i64 0, .int .i64 1, .int .i64 1, .int .i64 2] 3)) (by decide))
  have HB5 := Aside0.mk (HB4.out.alloc HB4.out.size (.cells #[.int .i64 0, .int .i64 1, .int .i64 1, .int .i64 2] 3))
  have HVB5 := Aside0.mk (Kd.R_alloc HVB4.out (.cells #[.int .i64 0, .int .i64 1, .int .i64 1, .int .i64 2] 3))
  clear HVB4 HB4
  generalize w4.alloc (.cells #[.int .i64 0, .int .i64 1, .int .i64 1, .int .i64 2] 3) = w5 at HL1 HB5 HVB5 ⊢
  have pa := Kd.R_reads' HVB5.out
  refine (ints_calls Ab cb [0, 1, 1, 2] _ 4 [0, 1, 1, 2] w5 pa.2.2 pa.2.1 HL1.out (by decide) (by decide)).mono ?_
  clear pa
  rintro e w6 ⟨rfl, hb⟩
  rw [show decide (([0, 1, 1, 2] : List Int) = [0, 1, 1, 2]) = true from by decide]
  have HB6 := Aside0.mk (HB5.out.trans (hb.mono HB5.out.size))
  clear hb HL1 HVB5 HB5
  go_wp2_with fail
  have HL1 := Aside0.mk (Cb_blk (xs := [true]) (blk_new w6 (.cells #[.bool true] 4)) (by decide))
  have HB7 := Aside0.mk (HB6.out.alloc HB6.out.size (.cells #[.bool true] 4))
  clear HB6
  generalize w6.alloc (.cells #[.bool true] 4) = w7 at HL1 HB7 ⊢
  have HB07 : Aside0 (Below wg.heap.size wg w7) := HB7
  refine (ready_calls _ 1 [true] (some ⟨gg, 0, none⟩) 4 G4 w7 HL1.out (Kd.C_below HG.out HB07.out) (by decide) HZ4.out).mono ?_
  rintro e w8 ⟨vr, rfl, hv, hb⟩
  rw [show rdyO G4 [true] = [1, 2] from by decide +kernel] at hv
  obtain ⟨Ar, cr, rfl⟩ := Kd.R_slice hv
  have HVR := Aside0.mk hv
  have HB8 := Aside0.mk (HB7.out.trans (hb.mono HB7.out.size))
  clear hb hv HL1 HB7 HB07
  go_wp2_with fail
  have HL1 := Aside0.mk (C_blk (xs := [1, 2]) (blk_new w8 (.cells #[.int .i64 1, .int .i64 2] 3)) (by decide))
  have HB9 := Aside0.mk (HB8.out.alloc HB8.out.size (.cells #[.int .i64 1, .int .i64 2] 3))
  have HVR9 := Aside0.mk (Kd.R_alloc HVR.out (.cells #[.int .i64 1, .int .i64 2] 3))
  clear HVR HB8
  generalize w8.alloc (.cells #[.int .i64 1, .int .i64 2] 3) = w9 at HL1 HB9 HVR9 ⊢
  have pa := Kd.R_reads' HVR9.out
  refine (ints_calls Ar cr [1, 2] _ 2 [1, 2] w9 pa.2.2 pa.2.1 HL1.out (by decide) (by decide)).mono ?_
  clear pa
  rintro e w10 ⟨rfl, hb⟩
  rw [show decide (([1, 2] : List Int) = [1, 2]) = true from by decide]
  have HB10 := Aside0.mk (HB9.out.trans (hb.mono HB9.out.size))
  clear hb HL1 HVR9 HB9
  go_wp2_with fail
  refine (behind_calls 1 (some ⟨gg, 0, none⟩) 4 G4 w10 (Kd.C_below HG.out HB10.out) (by decide) HZ4.out).mono ?_
  rintro e w11 ⟨vr, rfl, hv, hb⟩
  rw [show behR G4 1 = [3] from by decide +kernel] at hv
  obtain ⟨Ar, cr, rfl⟩ := Kd.R_slice hv
  have HVR := Aside0.mk hv
  have HB11 := Aside0.mk (HB10.out.trans (hb.mono HB10.out.size))
  clear hb hv HB10
  go_wp2_with fail
  have HL1 := Aside0.mk (C_blk (xs := [3]) (blk_new w11 (.cells #[.int .i64 3] 3)) (by decide))
  have HB12 := Aside0.mk (HB11.out.alloc HB11.out.size (.cells #[.int .i64 3] 3))
  have HVR9 := Aside0.mk (Kd.R_alloc HVR.out (.cells #[.int .i64 3] 3))
  clear HVR HB11
  generalize w11.alloc (.cells #[.int .i64 3] 3) = w12 at HL1 HB12 HVR9 ⊢
  have pa := Kd.R_reads' HVR9.out
  refine (ints_calls Ar cr [3] _ 1 [3] w12 pa.2.2 pa.2.1 HL1.out (by decide) (by decide)).mono ?_
  clear pa
  rintro e w13 ⟨rfl, hb⟩
  rw [show decide (([3] : List Int) = [3]) = true from by decide]
  have HB13 := Aside0.mk (HB12.out.trans (hb.mono HB12.out.size))
  have HG2 := Aside0.mk (g2_is w13)
  have HB14 : Aside0 (Below wg.heap.size wg (((w13.alloc (.cells #[.int .i64 1] 3)).alloc (.cells #[.int .i64 0] 3)).alloc (.cells #[.slice (some ⟨w13.heap.size, 0, none⟩) 1 1, .slice (some ⟨w13.heap.size + 1, 0, none⟩) 1 1] 25))) := ⟨below_alloc (below_alloc (below_alloc HB13.out _) _) _⟩
  clear hb HL1 HVR9 HB12 HB13
  go_wp2_with fail
  generalize ((w13.alloc (.cells #[.int .i64 1] 3)).alloc (.cells #[.int .i64 0] 3)).alloc (.cells #[.slice (some ⟨w13.heap.size, 0, none⟩) 1 1, .slice (some ⟨w13.heap.size + 1, 0, none⟩) 1 1] 25) = w14 at HG2 HB14 ⊢
  refine (right_calls _ 2 G2 w14 HG2.out (by decide) (gsz_of G2 (by decide +kernel))).mono ?_
  rintro e w15 ⟨rfl, hb⟩
  rw [show ordE G2 = 111 from by decide +kernel]
  have HB15 := Aside0.mk (HB14.out.trans (hb.mono HB14.out.size))
  have HG1 := Aside0.mk (g1_is w15)
  have HB16 : Aside0 (Below wg.heap.size wg ((w15.alloc (.cells #[.int .i64 0] 3)).alloc (.cells #[.slice (some ⟨w15.heap.size, 0, none⟩) 1 1] 25))) := ⟨below_alloc (below_alloc HB15.out _) _⟩
  clear hb HG2 HB14 HB15
  go_wp2_with fail
  generalize (w15.alloc (.cells #[.int .i64 0] 3)).alloc (.cells #[.slice (some ⟨w15.heap.size, 0, none⟩) 1 1] 25) = w16 at HG1 HB16 ⊢
  refine (right_calls _ 1 G1 w16 HG1.out (by decide) (gsz_of G1 (by decide +kernel))).mono ?_
  rintro e w17 ⟨rfl, hb⟩
  rw [show ordE G1 = 110 from by decide +kernel]
  have HB17 := Aside0.mk (HB16.out.trans (hb.mono HB16.out.size))
  clear hb HG1 HB16
  go_wp2_with fail
  go_ret
  exact ⟨rfl, HB0.out.trans (HB17.out.mono HB0.out.size)⟩
end Go.Proofs.Ytkeadpichlgagaa.Wv
