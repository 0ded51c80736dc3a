/- Kept of the text MoZ: what is reached (wip/tools/prune.py). -/
import Derived.Test.YtnkpleggmiamdaaVMoY
namespace Go.Proofs.Ytnkpleggmiamdaa.Mo
open Go.RowKit Go.Maps Go.Proofs.YtnkpleggmiamdaaW.PrintWords Go.Proofs.YtnkpleggmiamdaaW.PrintLast Go.Proofs.YtnkpleggmiamdaaW.PrintMore
open Go.Proofs.Ytnkpleggmiamdaa.PSessionParses Go.Proofs.Ytnkpleggmiamdaa.Mp
set_option linter.unusedVariables false
set_option linter.unusedSimpArgs false
def takeTop (l : List UInt8) (bs : List Int) : S105 × Int :=
  match parseF l with
  | none => (⟨0, [], []⟩, 10)
  | some k => if (takeS k bs 0).2.2 = 0 then (if (takeS k bs 0).2.1 = [] then ((takeS k bs 0).1, 0) else (⟨0, [], []⟩, 12)) else (⟨0, [], []⟩, (takeS k bs 0).2.2)
def TakeTopQ (r : S105 × Int) (w : World) (E : Ending) (w' : World) : Prop :=
  Below w.heap.size w w' ∧ ∃ u1 u2, E = .returned (.tuple #[.agg #[.int .u64 r.1.f0, u1, u2], .int .i64 r.2]) ∧ k105.M w' w.heap.size (fun j => w.heap.size ≤ j) r.1 [.int .u64 r.1.f0, u1, u2]
theorem M_nil (w : World) (base : Nat) (ok : Nat → Prop) : k105.M w base ok ⟨0, [], []⟩ [.int .u64 0, .slice none 0 0, .slice none 0 0] :=
  k105_mkM w base ok ⟨0, [], []⟩ (Kd.R_nil _ _ _ _ _) (Kd.R_nil _ _ _ _ _)
theorem info33z : (Try.prog.info? 105).map (·.size) = some 3 := by kernel_rfl
theorem TakeTopQ.drew {r : S105 × Int} {w : World} {E : Ending} {W : World} (h : TakeTopQ r w E W) : TakeTopQ r w E W.drew := by
  obtain ⟨hB, u1, u2, he, hM⟩ := h
  exact ⟨hB.drew, u1, u2, he, Kd.M_step hM (fun _ _ _ => rfl)⟩
theorem top_end {w W : World} {x : S105} {e : Int} {u1 u2 : Value} {bn : Nat} {a b c : Value} (hbn : w.heap.size = bn) (hB : Below w.heap.size w W) (h4 : W.heap[bn]? = some (.cells #[a, b, c] 105 (0, 0))) (hM : k105.M W w.heap.size (fun j => bn < j) x [.int .u64 x.f0, u1, u2]) :
    (((W.setCell ⟨bn, 0, none⟩ (.int .u64 x.f0)).setCell ⟨bn, 1, none⟩ u1).setCell ⟨bn, 2, none⟩ u2).heap[bn]? = some (.cells #[.int .u64 x.f0, u1, u2] 105 (0, 0)) ∧
      TakeTopQ (x, e) w (.returned (.tuple #[.agg #[.int .u64 x.f0, u1, u2], .int .i64 e])) (((W.setCell ⟨bn, 0, none⟩ (.int .u64 x.f0)).setCell ⟨bn, 1, none⟩ u1).setCell ⟨bn, 2, none⟩ u2) := by
  subst hbn
  refine ⟨set3 h4 _ _ _, ((hB.setCell (Nat.le_refl _) _).setCell (Nat.le_refl _) _).setCell (Nat.le_refl _) _, u1, u2, rfl, ?_⟩
  refine k105.M_mono (fun j hj => ?_) (Kd.M_step hM (fun k hk _ => ?_))
  · have : w.heap.size < j := hj
    omega
  · have : w.heap.size < k := hk
    rw [Below.heap_setCell _ ⟨w.heap.size, 2, none⟩ _ k (by show k ≠ w.heap.size; omega), Below.heap_setCell _ ⟨w.heap.size, 1, none⟩ _ k (by show k ≠ w.heap.size; omega), Below.heap_setCell _ ⟨w.heap.size, 0, none⟩ _ k (by show k ≠ w.heap.size; omega)]
set_option maxHeartbeats 1000000 in
set_option maxRecDepth 100000 in
theorem taketop_calls (l : List UInt8) (bs : List Int) (A : Option Addr) (c : Nat) (w : World) (hC : (Kd.int .u8).C w A bs.length bs) (hc : bs.length ≤ c) (hx : Byt bs) (hl : bs.length ≤ 2000000000000) :
    Calls Try.prog 60 #[.string (str l), .slice A bs.length c] w (TakeTopQ (takeTop l bs) w) := by
  have HBX : Aside0 (Below w.heap.size w (w.alloc z33c)) := ⟨(Below.refl _ _).alloc (Nat.le_refl _) _⟩
  have HP := Aside0.mk (parse_calls l (w.alloc z33c))
  have HC := Aside0.mk hC
  have HX := Aside0.mk hx
  have hmax := hC.2.1
  have HR : Aside0 (∀ k, parseF l = some k → Gd k ∧ (ren k).length ≤ 64) := ⟨fun k hk => by obtain ⟨a, b, _, d⟩ := parse_ren hk; exact ⟨b, by rw [← a]; exact d⟩⟩
  obtain ⟨res, hres⟩ : ∃ res, takeTop l bs = res := ⟨_, rfl⟩
  rw [hres]
  unfold takeTop at hres
  have HRES := Aside0.mk hres
  have hsz : (w.alloc z33c).heap.size = w.heap.size + 1 := World.size_alloc _ _
  have hb4 := blk_new w z33c
  clear hC hx hres
  generalize hb : str l = b at HP ⊢
  clear hb
  go_enter Try.func60, Try.ntmps60
  go_upto_region 1 with fail
  generalize w.alloc z33c = W at HBX HP hsz hb4 ⊢
  generalize hbn : w.heap.size = bn at hsz hb4 ⊢
  have HBN := Aside0.mk hbn
  have HSZ := Aside0.mk hsz
  have HB4 := Aside0.mk hb4
  clear hbn hsz hb4
  go_wp2_with fail
  refine HP.out.mono ?_
  rintro E w1 ⟨hB, hq⟩
  have HB := Aside0.mk hB
  have b41 := blk_below HB4.out hB
  have HB41 := Aside0.mk b41
  have m4 := blk_frozen b41 0
  have m6 := blk_frozen b41 1
  have m7 := blk_frozen b41 2
  have r0 : w1.cell? ⟨bn, 0, none⟩ = some (.int .u64 0) := (blk_cell b41 0).trans rfl
  have r1 : w1.cell? ⟨bn, 1, none⟩ = some (.slice none 0 0) := (blk_cell b41 1).trans rfl
  have r2 : w1.cell? ⟨bn, 2, none⟩ = some (.slice none 0 0) := (blk_cell b41 2).trans rfl
  have HBW1 : Aside0 (Below w.heap.size w w1) := ⟨HBX.out.trans (hB.mono HBX.out.size)⟩
  clear hB b41 HP
  rcases hq with ⟨hp, rfl⟩ | ⟨k, g, hp, rfl, hK⟩
  · rw [hp] at HRES
    clear hp
    go_wp2_with fail
    have hT := top_end (e := 10) (x := ⟨0, [], []⟩) HBN.out HBW1.out HB41.out (M_nil _ _ _)
    refine bodyPost_ret (results_ct rfl _ _ bn 105 #[.int .u64 0, .slice none 0 0, .slice none 0 0] (0, 0) _ rfl hT.1 Try.underlying105 rfl info33z) rfl ?_
    rw [← HRES.out]
    exact hT.2
  · obtain ⟨hG, hL⟩ := HR.out k hp
    rw [hp] at HRES
    simp only at HRES
    have HK := Aside0.mk hK
    have HTK : Aside0 (TkIs w1 (w1.alloc (.cells #[.slice A bs.length c, .int .i64 0] 137)) w1.heap.size bs 0) := ⟨⟨⟨A, c, blk_new w1 _, hc, Kd.C_below HC.out HBW1.out⟩, Nat.le_refl _⟩⟩
    have HBN2 : Aside0 (Below w1.heap.size w1 (w1.alloc (.cells #[.slice A bs.length c, .int .i64 0] 137))) := ⟨(Below.refl _ _).alloc (Nat.le_refl _) _⟩
    have HS2 : Aside0 ((w1.alloc (.cells #[.slice A bs.length c, .int .i64 0] 137)).heap.size = w1.heap.size + 1) := ⟨World.size_alloc _ _⟩
    have HCA := Aside0.mk (take_calls k w1 (w1.alloc (.cells #[.slice A bs.length c, .int .i64 0] 137)) _ g w1.heap.size bs 0 HBN2.out HK.out HTK.out HX.out hl hG hL)
    obtain ⟨⟨x, b2, e2⟩, hr⟩ : ∃ r, takeS k bs 0 = r := ⟨_, rfl⟩
    rw [hr] at HRES HCA
    simp only at HRES
    have HB5 := Aside0.mk (blk_lt HB41.out)
    clear hp hK hG hL hr m4 m6 m7 r0 r1 r2
    go_upto_region 5 with fail
    generalize w1.alloc (.cells #[.slice A bs.length c, .int .i64 0] 137) = w2 at HTK HBN2 HS2 HCA ⊢
    generalize hgt : w1.heap.size = gt at HTK HS2 HCA ⊢
    have HGT := Aside0.mk hgt
    clear hgt
    go_wp2_with fail
    refine HCA.out.mono ?_
    rintro E w3 ⟨u1, u2, rfl, hM, hT, hF⟩
    simp only at hT hM
    have hMo := k105_openM hM
    obtain ⟨v1, v2, e0, hR1, hR2⟩ := hMo
    obtain ⟨A1, c1, rfl⟩ := Kd.R_slice hR1
    obtain ⟨A2, c2, rfl⟩ := Kd.R_slice hR2
    cases e0
    have hB3 : Below w1.heap.size w1 w3 := HBN2.out.trans (hF.to_below (fun k hk => by have h : k = gt := hk; have := HGT.out; omega) HBN2.out.size)
    have HBW3 : Aside0 (Below w.heap.size w (w3.alloc (.cells #[.int .u64 x.f0, .slice A1 x.f1.length c1, .slice A2 x.f2.length c2] 105))) := ⟨(HBW1.out.trans (hB3.mono HBW1.out.size)).alloc (by have := hB3.size; have := HBW1.out.size; omega) _⟩
    have hA : Below w3.heap.size w3 (w3.alloc (.cells #[.int .u64 x.f0, .slice A1 x.f1.length c1, .slice A2 x.f2.length c2] 105)) := (Below.refl _ _).alloc (Nat.le_refl _) _
    have HM4 := Aside0.mk (Kd.M_below hM hA)
    have HT4 := Aside0.mk (hT.below hA)
    have HB44 := Aside0.mk (blk_below (blk_below HB41.out hB3) hA)
    have HN8 := Aside0.mk (blk_new w3 (.cells #[.int .u64 x.f0, .slice A1 x.f1.length c1, .slice A2 x.f2.length c2] 105))
    have HZ3 := Aside0.mk hF.size
    clear hB3 hA hM hT hF hR1 hR2 HCA
    go_upto_region 6 with fail
    generalize w3.alloc (.cells #[.int .u64 x.f0, .slice A1 x.f1.length c1, .slice A2 x.f2.length c2] 105) = W4 at HBW3 HM4 HT4 HB44 HN8 ⊢
    generalize hb8 : w3.heap.size = b8 at HN8 ⊢
    have HBT : Aside0 (bn < gt ∧ gt < b8) := ⟨by have := HB5.out; have := HGT.out; have := HZ3.out; have := HS2.out; omega⟩
    clear hb8
    obtain ⟨⟨A3, c3, hb3, hc3, hC3⟩, _⟩ := HT4.out
    have y0 : W4.cell? ⟨gt, 0, none⟩ = some (.slice A3 b2.length c3) := (blk_cell hb3 0).trans rfl
    have y1 : W4.cell? ⟨gt, 1, none⟩ = some (.int .i64 e2) := (blk_cell hb3 1).trans rfl
    have hlm := hC3.2.1
    have HB3G := Aside0.mk hb3
    clear hb3 hC3
    by_cases h0 : e2 = 0
    · subst h0
      cases b2 with
      | nil =>
        rw [if_pos rfl, if_pos rfl] at HRES
        have p4 := HB44.out
        have m4 := blk_frozen p4 0
        have m6 := blk_frozen p4 1
        have m7 := blk_frozen p4 2
        have r0 : W4.cell? ⟨bn, 0, none⟩ = some (.int .u64 0) := (blk_cell p4 0).trans rfl
        have r1 : W4.cell? ⟨bn, 1, none⟩ = some (.slice none 0 0) := (blk_cell p4 1).trans rfl
        have r2 : W4.cell? ⟨bn, 2, none⟩ = some (.slice none 0 0) := (blk_cell p4 2).trans rfl
        have q0 : W4.cell? ⟨b8, 0, none⟩ = some (.int .u64 x.f0) := (blk_cell HN8.out 0).trans rfl
        have q1 : W4.cell? ⟨b8, 1, none⟩ = some (.slice A1 x.f1.length c1) := (blk_cell HN8.out 1).trans rfl
        have q2 : W4.cell? ⟨b8, 2, none⟩ = some (.slice A2 x.f2.length c2) := (blk_cell HN8.out 2).trans rfl
        clear p4
        have hT := top_end (e := 0) HBN.out HBW3.out HB44.out (k105.M_mono (fun j hj => by have h : w2.heap.size ≤ j := hj; have := HBT.out; have := HS2.out; omega) (k105.M_lower (by have h1 := HBW1.out.size; have := HS2.out; have := HGT.out; omega) HM4.out))
        go_wp2_with fail
        refine bodyPost_ret (results_ct rfl _ _ bn 105 #[.int .u64 x.f0, .slice A1 x.f1.length c1, .slice A2 x.f2.length c2] (0, 0) _ rfl hT.1 Try.underlying105 rfl info33z) rfl ?_
        rw [← HRES.out]
        exact hT.2
      | cons x2 b2 =>
        rw [if_pos rfl, if_neg (by simp)] at HRES
        have HF := Aside0.mk (fail_calls w1 W4 gt (x2 :: b2) 0 12 HT4.out)
        rw [orE_0] at HF
        have hl0 : (0 : Int) < ((x2 :: b2).length : Int) := by simp only [List.length_cons]; omega
        generalize (x2 :: b2).length = nb at y0 hl0 hlm
        go_wp2_with fail
        refine HF.out.mono ?_
        rintro E w5 ⟨rfl, hT5, hF5⟩
        have HB4E := Aside0.mk (hF5.blk HB44.out (by show ¬ bn = gt; have := HBT.out; omega))
        have HBW5 : Aside0 (Below w.heap.size w w5) := ⟨HBW3.out.trans (hF5.to_below (fun k hk => by have h : k = gt := hk; have := HBT.out; have := HBN.out; omega) HBW3.out.size)⟩
        obtain ⟨⟨A5, c5, hb5, _, _⟩, _⟩ := hT5
        have z1 : w5.cell? ⟨gt, 1, none⟩ = some (.int .i64 12) := (blk_cell hb5 1).trans rfl
        clear hF5 hb5 y0 y1 HF
        have p4 := HB4E.out
        have m4 := blk_frozen p4 0
        have m6 := blk_frozen p4 1
        have m7 := blk_frozen p4 2
        have r0 : w5.cell? ⟨bn, 0, none⟩ = some (.int .u64 0) := (blk_cell p4 0).trans rfl
        have r1 : w5.cell? ⟨bn, 1, none⟩ = some (.slice none 0 0) := (blk_cell p4 1).trans rfl
        have r2 : w5.cell? ⟨bn, 2, none⟩ = some (.slice none 0 0) := (blk_cell p4 2).trans rfl
        have hng : gt ≠ bn := by have := HBT.out; omega
        clear p4
        go_wp2_with fail
        go_region
        go_wp2_with fail
        have hT := top_end (e := 12) (x := ⟨0, [], []⟩) HBN.out HBW5.out HB4E.out (M_nil _ _ _)
        refine bodyPost_ret (results_ct rfl _ _ bn 105 #[.int .u64 0, .slice none 0 0, .slice none 0 0] (0, 0) _ rfl hT.1 Try.underlying105 rfl info33z) rfl ?_
        rw [← HRES.out]
        exact hT.2.drew
    · rw [if_neg h0] at HRES
      have t0 : (e2 != 0) = true := by simpa using h0
      have HE0 := Aside0.mk h0
      clear h0
      cases b2 with
      | nil =>
        have HB4E := HB44
        have HBW5 := HBW3
        have p4 := HB4E.out
        have m4 := blk_frozen p4 0
        have m6 := blk_frozen p4 1
        have m7 := blk_frozen p4 2
        have r0 : W4.cell? ⟨bn, 0, none⟩ = some (.int .u64 0) := (blk_cell p4 0).trans rfl
        have r1 : W4.cell? ⟨bn, 1, none⟩ = some (.slice none 0 0) := (blk_cell p4 1).trans rfl
        have r2 : W4.cell? ⟨bn, 2, none⟩ = some (.slice none 0 0) := (blk_cell p4 2).trans rfl
        have hng : gt ≠ bn := by have := HBT.out; omega
        clear p4
        go_wp2_with fail
        go_region
        go_wp2_with fail
        have hT := top_end (e := e2) (x := ⟨0, [], []⟩) HBN.out HBW5.out HB4E.out (M_nil _ _ _)
        refine bodyPost_ret (results_ct rfl _ _ bn 105 #[.int .u64 0, .slice none 0 0, .slice none 0 0] (0, 0) _ rfl hT.1 Try.underlying105 rfl info33z) rfl ?_
        rw [← HRES.out]
        exact hT.2.drew
      | cons x2 b2 =>
        have HF := Aside0.mk (fail_calls w1 W4 gt (x2 :: b2) e2 12 HT4.out)
        rw [orE_n HE0.out] at HF
        have hl0 : (0 : Int) < ((x2 :: b2).length : Int) := by simp only [List.length_cons]; omega
        generalize (x2 :: b2).length = nb at y0 hl0 hlm
        go_wp2_with fail
        refine HF.out.mono ?_
        rintro E w5 ⟨rfl, hT5, hF5⟩
        have HB4E := Aside0.mk (hF5.blk HB44.out (by show ¬ bn = gt; have := HBT.out; omega))
        have HBW5 : Aside0 (Below w.heap.size w w5) := ⟨HBW3.out.trans (hF5.to_below (fun k hk => by have h : k = gt := hk; have := HBT.out; have := HBN.out; omega) HBW3.out.size)⟩
        obtain ⟨⟨A5, c5, hb5, _, _⟩, _⟩ := hT5
        have z1 : w5.cell? ⟨gt, 1, none⟩ = some (.int .i64 e2) := (blk_cell hb5 1).trans rfl
        clear hF5 hb5 y0 y1 HF
        have p4 := HB4E.out
        have m4 := blk_frozen p4 0
        have m6 := blk_frozen p4 1
        have m7 := blk_frozen p4 2
        have r0 : w5.cell? ⟨bn, 0, none⟩ = some (.int .u64 0) := (blk_cell p4 0).trans rfl
        have r1 : w5.cell? ⟨bn, 1, none⟩ = some (.slice none 0 0) := (blk_cell p4 1).trans rfl
        have r2 : w5.cell? ⟨bn, 2, none⟩ = some (.slice none 0 0) := (blk_cell p4 2).trans rfl
        have hng : gt ≠ bn := by have := HBT.out; omega
        clear p4
        go_wp2_with fail
        go_region
        go_wp2_with fail
        have hT := top_end (e := e2) (x := ⟨0, [], []⟩) HBN.out HBW5.out HB4E.out (M_nil _ _ _)
        refine bodyPost_ret (results_ct rfl _ _ bn 105 #[.int .u64 0, .slice none 0 0, .slice none 0 0] (0, 0) _ rfl hT.1 Try.underlying105 rfl info33z) rfl ?_
        rw [← HRES.out]
        exact hT.2.drew
end Go.Proofs.Ytnkpleggmiamdaa.Mo
