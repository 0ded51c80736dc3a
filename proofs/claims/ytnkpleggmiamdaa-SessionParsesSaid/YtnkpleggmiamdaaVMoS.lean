/- Kept of the text MoS: what is reached (wip/tools/prune.py). -/
import Derived.Test.YtnkpleggmiamdaaVMoR
namespace Go.Proofs.Ytnkpleggmiamdaa.Mo
open Go.RowKit Go.Maps Go.Proofs.YtnkpleggmiamdaaW.PrintWords Go.Proofs.YtnkpleggmiamdaaW.PrintLast Go.Proofs.YtnkpleggmiamdaaW.PrintMore
open Go.Proofs.Ytnkpleggmiamdaa.PSessionParses Go.Proofs.Ytnkpleggmiamdaa.Mp
set_option linter.unusedVariables false
set_option linter.unusedSimpArgs false
theorem let_leaf {c : Int} (hc : c = 110 ∨ c = 98) : LetS (.mk c []) := .mk (by omega) (fun k hk => by simp at hk)
theorem pt_let : ∀ f, (∀ deep l k r, pt f deep l = some (k, r) → LetS k) ∧ (∀ deep l ks r, pts f deep l = some (ks, r) → ∀ k ∈ ks, LetS k)
  | 0 => ⟨fun _ _ _ _ h => by simp [pt] at h, fun _ _ _ _ h => by simp [pts] at h⟩
  | f + 1 => by
    obtain ⟨h1, h2⟩ := pt_let f
    refine ⟨fun deep l k r h => ?_, fun deep l ks r h => ?_⟩
    · cases l with
      | nil => simp [pt] at h
      | cons c s =>
        unfold pt at h
        split at h
        · cases h
        · split at h
          · cases h; exact let_leaf (by omega)
          · split at h
            · cases h; exact let_leaf (by omega)
            · split at h
              · obtain ⟨p, hp, e⟩ := Option.map_eq_some_iff.1 h
                cases e
                exact .mk (by omega) (fun k hk => by
                  simp only [List.mem_singleton] at hk
                  subst hk
                  exact h1 _ _ p.1 p.2 hp)
              · split at h
                · obtain ⟨p, hp, e⟩ := Option.map_eq_some_iff.1 h
                  cases e
                  exact .mk (by omega) (fun k hk => h2 _ _ p.1 p.2 hp k hk)
                · cases h
    · cases l with
      | nil => simp [pts] at h
      | cons c s =>
        unfold pts at h
        split at h
        · cases h; simp
        · split at h
          · cases h
          · next p hp =>
            obtain ⟨q, hq, e⟩ := Option.map_eq_some_iff.1 h
            cases e
            intro k hk
            rcases List.mem_cons.1 hk with rfl | hk
            · exact h1 _ _ p.1 p.2 hp
            · exact h2 _ _ q.1 q.2 hq k hk
theorem parse_let {l : List UInt8} {k : Sh} (h : parseF l = some k) : LetS k := by
  unfold parseF at h
  split at h
  · cases h
  · split at h
    · next k' hp =>
      cases h
      exact (pt_let _).1 _ _ _ _ hp
    · cases h
def PutTopQ (l : List UInt8) (vs : List S105) (w : World) (e : Ending) (w' : World) : Prop :=
  Below w.heap.size w w' ∧ ((parseF l = none ∧ e = .returned (.tuple #[.slice none 0 0, .int .i64 10])) ∨
    (∃ k, parseF l = some k ∧ vs.all (hasS k) = false ∧ e = .returned (.tuple #[.slice none 0 0, .int .i64 2])) ∨
    (∃ k v0, parseF l = some k ∧ vs.all (hasS k) = true ∧ e = .returned (.tuple #[v0, .int .i64 0]) ∧ RB w' w.heap.size (fun k => w.heap.size ≤ k) v0 ((vs.map (putS k)).flatten)))
theorem flat_take (k : Sh) (vs : List S105) (i : Nat) (h : i < vs.length) : ((vs.take (i + 1)).map (putS k)).flatten = ((vs.take i).map (putS k)).flatten ++ putS k vs[i] := by
  rw [List.take_succ_eq_append_getElem h, List.map_append, List.flatten_append, List.map_cons, List.flatten_cons]
  simp
theorem flat_le (k : Sh) (vs : List S105) (i : Nat) : ((vs.take i).map (putS k)).flatten.length ≤ ((vs.map (putS k)).flatten).length := by
  conv => rhs; rw [← List.take_append_drop i vs, List.map_append, List.flatten_append, List.length_append]
  omega
set_option maxHeartbeats 4000000 in
set_option maxRecDepth 100000 in
theorem Put_calls (l : List UInt8) (vs : List S105) (A : Option Addr) (cap : Nat) (w : World) (hC : k105.C w A vs.length vs) (hcap : vs.length ≤ cap) (hW : ∀ v ∈ vs, WfS v) (hL : ∀ k, parseF l = some k → ((vs.map (putS k)).flatten).length ≤ 140737488355328) :
    Calls Try.prog 64 #[.string (str l), .slice A vs.length cap] w (PutTopQ l vs w) := by
  have HP := Aside0.mk (parse_calls l w)
  have HC := Aside0.mk hC
  have HW := Aside0.mk hW
  have HL := Aside0.mk hL
  have hmax := hC.2.1
  clear hC hW hL
  generalize hb : str l = b at HP ⊢
  clear hb
  go_enter Try.func64, Try.ntmps64
  go_wp2_with fail
  refine HP.out.mono ?_
  rintro e w1 ⟨hB, hq⟩
  have HB := Aside0.mk hB
  clear hB HP
  rcases hq with ⟨hp, rfl⟩ | ⟨k, g, hp, rfl, hK⟩
  · have HPF := Aside0.mk hp
    clear hp
    go_wp2_with fail
    go_ret2
    exact ⟨HB.out, .inl ⟨HPF.out, rfl⟩⟩
  · have HPF := Aside0.mk hp
    have HK := Aside0.mk hK
    have HLK := Aside0.mk (HL.out k hp)
    have HLT := Aside0.mk (parse_let hp)
    clear hp hK HL
    go_wp2_with fail
    go_loopg [7, 9, 16] vs.length (fun kq v7 v9 v16 wr => ∃ (i : Nat) (ub : Value), v7 = ub ∧ v16 = .int .i64 i ∧ i + kq = vs.length ∧ Aside0 ((vs.take i).all (hasS k) = true) ∧ Aside0 (RB wr w1.heap.size (fun k => w1.heap.size ≤ k) ub ((vs.take i).map (putS k)).flatten) ∧ Aside0 (Below w1.heap.size w1 wr))
    case atStart => exact ⟨0, _, rfl, rfl, by omega, ⟨by simp⟩, ⟨Kd.R_nil _ _ _ _ _⟩, ⟨Below.refl _ _⟩⟩
    case round =>
      obtain ⟨i, ub, hub, rfl, hi, HA, HR, HBr⟩ := hrel
      replace hub := hub.symm
      subst hub
      by_cases hlt : i < vs.length
      · have hlt' : (i : Int) < (vs.length : Int) := by omega
        obtain ⟨ad, B1, d1, B2, d2, rfl, x0, x1, x2, l1, g1, l2, g2⟩ := at_T105 (Kd.C_below HC.out HB.out) i (by omega) hlt'
        simp only [Int.toNat_natCast] at x0 x1 x2
        have hrd : rd_T105 vs (i : Int) = vs[i] := by simp [rd_T105, hlt]
        rw [hrd] at x0 x1 x2 l1 g1 l2 g2
        clear hrd
        have HF := Aside0.mk (flat_take k vs i hlt)
        have HA2 : Aside0 ((vs.take (i + 1)).all (hasS k) = hasS k vs[i]) := ⟨by rw [List.take_succ_eq_append_getElem hlt, List.all_append, HA.out]; simp⟩
        have HAF : Aside0 (hasS k vs[i] = false → vs.all (hasS k) = false) := ⟨fun h => by
          cases ha : vs.all (hasS k) with
          | false => rfl
          | true => rw [List.all_eq_true.1 ha _ (List.getElem_mem hlt)] at h; cases h⟩
        have HUW := Aside0.mk (HW.out _ (List.getElem_mem hlt))
        have HFL := Aside0.mk (flat_le k vs (i + 1))
        rw [HF.out] at HFL
        generalize vs[i] = q at x0 x1 x2 l1 g1 l2 g2 HF HA2 HAF HUW HFL
        have HU : Aside0 (ValIs w1 q B1 d1 B2 d2) := ⟨⟨g1, l1, g2, l2⟩⟩
        have x0' := cellB HBr.out x0
        have x1' := cellB HBr.out x1
        have x2' := cellB HBr.out x2
        have hA : Below wr.heap.size wr (wr.alloc (.cells #[.int .u64 q.f0, .slice B1 q.f1.length d1, .slice B2 q.f2.length d2] 105)) := (Below.refl _ _).alloc (Nat.le_refl _) _
        have HB3 := Aside0.mk (HBr.out.trans (hA.mono HBr.out.size))
        have HR3 := Aside0.mk (Kd.R_below HR.out hA)
        have qn := blk_new wr (.cells #[.int .u64 q.f0, .slice B1 q.f1.length d1, .slice B2 q.f2.length d2] 105)
        clear hA g1 l1 g2 l2 x0 x1 x2
        go_upto_region 8 with fail
        generalize (wr.alloc (.cells #[.int .u64 q.f0, .slice B1 q.f1.length d1, .slice B2 q.f2.length d2] 105)) = W3 at HB3 HR3 qn ⊢
        generalize wr.heap.size = bx at qn ⊢
        have QN := Aside0.mk qn
        have q0 : W3.cell? ⟨bx, 0, none⟩ = some (.int .u64 q.f0) := (blk_cell qn 0).trans rfl
        have q1 : W3.cell? ⟨bx, 1, none⟩ = some (.slice B1 q.f1.length d1) := (blk_cell qn 1).trans rfl
        have q2 : W3.cell? ⟨bx, 2, none⟩ = some (.slice B2 q.f2.length d2) := (blk_cell qn 2).trans rfl
        have HCA := Aside0.mk (has_calls k W3 _ g (HK.out.under HB3.out) q B1 d1 B2 d2 (HU.out.under HB3.out))
        clear qn x0' x1' x2' HR HBr
        go_wp2_with fail
        refine HCA.out.mono ?_
        rintro e w4 ⟨rfl, hB4⟩
        have HB4 := Aside0.mk (HB3.out.trans (hB4.mono HB3.out.size))
        have HR4 := Aside0.mk (Kd.R_below HR3.out hB4)
        have r0 := cellB hB4 q0
        have r1 := cellB hB4 q1
        have r2 := cellB hB4 q2
        clear hB4 q0 q1 q2 HB3 HR3 HCA QN
        cases hh : hasS k q with
        | false =>
          have HE := Aside0.mk (HAF.out hh)
          clear hh
          go_wp2_with fail
          go_ret2
          exact ⟨HB.out.trans (HB4.out.mono HB.out.size), .inr (.inl ⟨k, HPF.out, HE.out, rfl⟩)⟩
        | true =>
          have HCP := Aside0.mk (put_calls k HLT.out w1 w4 _ ub _ _ g HB4.out HK.out q B1 d1 B2 d2 HU.out HUW.out hh (by have h1 := HFL.out; have h2 := HLK.out; simp only [List.length_append] at h1; omega) HR4.out)
          rw [hh] at HA2
          clear hh
          go_wp2_with fail
          refine HCP.out.mono ?_
          rintro e w5 ⟨u5, rfl, a, b5, d⟩
          rw [← HF.out] at a
          have HR5 := Aside0.mk (Kd.R_mono a (fun k hk => by have h := HB4.out.size; rcases hk with hk | hk <;> omega))
          have HB5 := Aside0.mk b5
          clear a b5 d HCP r0 r1 r2 HB4 HR4
          go_wp2_with fail
          go_roundg (gk - 1)
          case measure => omega
          case rel => exact ⟨i + 1, _, rfl, by go_num, by omega, HA2, HR5, HB5⟩
      · have HT : Aside0 (vs.take i = vs) := ⟨List.take_of_length_le (by omega)⟩
        rw [HT.out] at HA HR
        go_wp2_with fail
        go_ret2
        exact ⟨HB.out.trans (HBr.out.mono HB.out.size), .inr (.inr ⟨k, _, HPF.out, HA.out, rfl, Kd.R_mono (Kd.R_lower HR.out HB.out.size) (fun k hk => by have h := HB.out.size; omega)⟩)⟩
end Go.Proofs.Ytnkpleggmiamdaa.Mo
