/- Kept of the text Om4: what is reached (wip/tools/prune.py). -/
import Derived.Test.YtcdlccnpbhjgkaaVOm3
namespace Go.Proofs.Ytcdlccnpbhjgkaa.Oo
open Go.RowKit Go.Maps Go.Proofs.YtcdlccnpbhjgkaaW.PrintWords Go.Proofs.YtcdlccnpbhjgkaaW.PrintLast Go.Proofs.YtcdlccnpbhjgkaaW.PrintMore
open Go.Proofs.Ytcdlccnpbhjgkaa.POrderBytes Go.Proofs.Ytcdlccnpbhjgkaa.Mp
set_option linter.unusedVariables false
set_option linter.unusedSimpArgs false
theorem let_leaf {c : Int} (hc : c = 110 ∨ c = 98) : LetS (.mk c []) := .mk (by omega) (fun k hk => by simp at hk)
theorem pt_let : ∀ f, (∀ deep l k r, pt f deep l = some (k, r) → LetS k) ∧ (∀ deep l ks r, pts f deep l = some (ks, r) → ∀ k ∈ ks, LetS k)
  | 0 => ⟨fun _ _ _ _ h => by simp [pt] at h, fun _ _ _ _ h => by simp [pts] at h⟩
  | f + 1 => by
    obtain ⟨h1, h2⟩ := pt_let f
    refine ⟨fun deep l k r h => ?_, fun deep l ks r h => ?_⟩
    · cases l with
      | nil => simp [pt] at h
      | cons c s =>
        unfold pt at h
        split at h
        · cases h
        · split at h
          · cases h; exact let_leaf (by omega)
          · split at h
            · cases h; exact let_leaf (by omega)
            · split at h
              · obtain ⟨p, hp, e⟩ := Option.map_eq_some_iff.1 h
                cases e
                exact .mk (by omega) (fun k hk => by
                  simp only [List.mem_singleton] at hk
                  subst hk
                  exact h1 _ _ p.1 p.2 hp)
              · split at h
                · obtain ⟨p, hp, e⟩ := Option.map_eq_some_iff.1 h
                  cases e
                  exact .mk (by omega) (fun k hk => h2 _ _ p.1 p.2 hp k hk)
                · cases h
    · cases l with
      | nil => simp [pts] at h
      | cons c s =>
        unfold pts at h
        split at h
        · cases h; simp
        · split at h
          · cases h
          · next p hp =>
            obtain ⟨q, hq, e⟩ := Option.map_eq_some_iff.1 h
            cases e
            intro k hk
            rcases List.mem_cons.1 hk with rfl | hk
            · exact h1 _ _ p.1 p.2 hp
            · exact h2 _ _ q.1 q.2 hq k hk
theorem parse_let {l : List UInt8} {k : Sh} (h : parseF l = some k) : LetS k := by
  unfold parseF at h
  split at h
  · cases h
  · split at h
    · next k' hp =>
      cases h
      exact (pt_let _).1 _ _ _ _ hp
    · cases h
def PutTopQ (l : List UInt8) (vs : List S33) (w : World) (e : Ending) (w' : World) : Prop :=
  Below w.heap.size w w' ∧ ((parseF l = none ∧ e = .returned (.tuple #[.slice none 0 0, .int .i64 10])) ∨
    (∃ k, parseF l = some k ∧ vs.all (hasS k) = false ∧ e = .returned (.tuple #[.slice none 0 0, .int .i64 2])) ∨
    (∃ k v0, parseF l = some k ∧ vs.all (hasS k) = true ∧ e = .returned (.tuple #[v0, .int .i64 0]) ∧ RB w' w.heap.size (fun k => w.heap.size ≤ k) v0 ((vs.map (putS k)).flatten)))
theorem flat_take (k : Sh) (vs : List S33) (i : Nat) (h : i < vs.length) : ((vs.take (i + 1)).map (putS k)).flatten = ((vs.take i).map (putS k)).flatten ++ putS k vs[i] := by
  rw [List.take_succ_eq_append_getElem h, List.map_append, List.flatten_append, List.map_cons, List.flatten_cons]
  simp
theorem flat_le (k : Sh) (vs : List S33) (i : Nat) : ((vs.take i).map (putS k)).flatten.length ≤ ((vs.map (putS k)).flatten).length := by
  conv => rhs; rw [← List.take_append_drop i vs, List.map_append, List.flatten_append, List.length_append]
  omega
set_option maxHeartbeats 4000000 in
set_option maxRecDepth 100000 in
theorem Put_calls (l : List UInt8) (vs : List S33) (A : Option Addr) (cap : Nat) (w : World) (hC : k33.C w A vs.length vs) (hcap : vs.length ≤ cap) (hW : ∀ v ∈ vs, WfS v) (hL : ∀ k, parseF l = some k → ((vs.map (putS k)).flatten).length ≤ 140737488355328) :
    Calls Try.prog 17 #[.string (str l), .slice A vs.length cap] w (PutTopQ l vs w) := by
  have HP := Aside0.mk (parse_calls l w)
  have HC := Aside0.mk hC
  have HW := Aside0.mk hW
  have HL := Aside0.mk hL
  have hmax := hC.2.1
  clear hC hW hL
  generalize hb : str l = b at HP ⊢
  clear hb
  go_enter Try.func17, Try.ntmps17
  go_wp2_with fail
  refine HP.out.mono ?_
  rintro e w1 ⟨hB, hq⟩
  have HB := Aside0.mk hB
  clear hB HP
  rcases hq with ⟨hp, rfl⟩ | ⟨k, g, hp, rfl, hK⟩
  · have HPF := Aside0.mk hp
    clear hp
    go_wp2_with fail
    go_ret2
    exact ⟨HB.out, .inl ⟨HPF.out, rfl⟩⟩
  · have HPF := Aside0.mk hp
    have HK := Aside0.mk hK
    have HLK := Aside0.mk (HL.out k hp)
    have HLT := Aside0.mk (parse_let hp)
    clear hp hK HL
    go_wp2_with fail
    go_loopg [7, 9, 16] vs.length (fun kq v7 v9 v16 wr => ∃ (i : Nat) (ub : Value), v7 = ub ∧ v16 = .int .i64 i ∧ i + kq = vs.length ∧ Aside0 ((vs.take i).all (hasS k) = true) ∧ Aside0 (RB wr w1.heap.size (fun k => w1.heap.size ≤ k) ub ((vs.take i).map (putS k)).flatten) ∧ Aside0 (Below w1.heap.size w1 wr))
    case atStart => exact ⟨0, _, rfl, rfl, by omega, ⟨by simp⟩, ⟨Kd.R_nil _ _ _ _ _⟩, ⟨Below.refl _ _⟩⟩
    case round =>
      obtain ⟨i, ub, hub, rfl, hi, HA, HR, HBr⟩ := hrel
      replace hub := hub.symm
      subst hub
      by_cases hlt : i < vs.length
      · have hlt' : (i : Int) < (vs.length : Int) := by omega
        obtain ⟨ad, B1, d1, B2, d2, rfl, x0, x1, x2, l1, g1, l2, g2⟩ := at_T33 (Kd.C_below HC.out HB.out) i (by omega) hlt'
        simp only [Int.toNat_natCast] at x0 x1 x2
        have hrd : rd_T33 vs (i : Int) = vs[i] := by simp [rd_T33, hlt]
        rw [hrd] at x0 x1 x2 l1 g1 l2 g2
        clear hrd
        have HF := Aside0.mk (flat_take k vs i hlt)
        have HA2 : Aside0 ((vs.take (i + 1)).all (hasS k) = hasS k vs[i]) := ⟨by rw [List.take_succ_eq_append_getElem hlt, List.all_append, HA.out]; simp⟩
        have HAF : Aside0 (hasS k vs[i] = false → vs.all (hasS k) = false) := ⟨fun h => by
          cases ha : vs.all (hasS k) with
          | false => rfl
          | true => rw [List.all_eq_true.1 ha _ (List.getElem_mem hlt)] at h; cases h⟩
        have HUW := Aside0.mk (HW.out _ (List.getElem_mem hlt))
        have HFL := Aside0.mk (flat_le k vs (i + 1))
        rw [HF.out] at HFL
        generalize vs[i] = q at x0 x1 x2 l1 g1 l2 g2 HF HA2 HAF HUW HFL
        have HU : Aside0 (ValIs w1 q B1 d1 B2 d2) := ⟨⟨g1, l1, g2, l2⟩⟩
        have x0' := cellB HBr.out x0
        have x1' := cellB HBr.out x1
        have x2' := cellB HBr.out x2
        have hA : Below wr.heap.size wr (wr.alloc (.cells #[.int .u64 q.f0, .slice B1 q.f1.length d1, .slice B2 q.f2.length d2] 33)) := (Below.refl _ _).alloc (Nat.le_refl _) _
        have HB3 := Aside0.mk (HBr.out.trans (hA.mono HBr.out.size))
        have HR3 := Aside0.mk (Kd.R_below HR.out hA)
        have qn := blk_new wr (.cells #[.int .u64 q.f0, .slice B1 q.f1.length d1, .slice B2 q.f2.length d2] 33)
        clear hA g1 l1 g2 l2 x0 x1 x2
        go_upto_region 8 with fail
        generalize (wr.alloc (.cells #[.int .u64 q.f0, .slice B1 q.f1.length d1, .slice B2 q.f2.length d2] 33)) = W3 at HB3 HR3 qn ⊢
        generalize wr.heap.size = bx at qn ⊢
        have QN := Aside0.mk qn
        have q0 : W3.cell? ⟨bx, 0, none⟩ = some (.int .u64 q.f0) := (blk_cell qn 0).trans rfl
        have q1 : W3.cell? ⟨bx, 1, none⟩ = some (.slice B1 q.f1.length d1) := (blk_cell qn 1).trans rfl
        have q2 : W3.cell? ⟨bx, 2, none⟩ = some (.slice B2 q.f2.length d2) := (blk_cell qn 2).trans rfl
        have HCA := Aside0.mk (has_calls k W3 _ g (HK.out.under HB3.out) q B1 d1 B2 d2 (HU.out.under HB3.out))
        clear qn x0' x1' x2' HR HBr
        go_wp2_with fail
        refine HCA.out.mono ?_
        rintro e w4 ⟨rfl, hB4⟩
        have HB4 := Aside0.mk (HB3.out.trans (hB4.mono HB3.out.size))
        have HR4 := Aside0.mk (Kd.R_below HR3.out hB4)
        have r0 := cellB hB4 q0
        have r1 := cellB hB4 q1
        have r2 := cellB hB4 q2
        clear hB4 q0 q1 q2 HB3 HR3 HCA QN
        cases hh : hasS k q with
        | false =>
          have HE := Aside0.mk (HAF.out hh)
          clear hh
          go_wp2_with fail
          go_ret2
          exact ⟨HB.out.trans (HB4.out.mono HB.out.size), .inr (.inl ⟨k, HPF.out, HE.out, rfl⟩)⟩
        | true =>
          have HCP := Aside0.mk (put_calls k HLT.out w1 w4 _ ub _ _ g HB4.out HK.out q B1 d1 B2 d2 HU.out HUW.out hh (by have h1 := HFL.out; have h2 := HLK.out; simp only [List.length_append] at h1; omega) HR4.out)
          rw [hh] at HA2
          clear hh
          go_wp2_with fail
          refine HCP.out.mono ?_
          rintro e w5 ⟨u5, rfl, a, b5, d⟩
          rw [← HF.out] at a
          have HR5 := Aside0.mk (Kd.R_mono a (fun k hk => by have h := HB4.out.size; rcases hk with hk | hk <;> omega))
          have HB5 := Aside0.mk b5
          clear a b5 d HCP r0 r1 r2 HB4 HR4
          go_wp2_with fail
          go_roundg (gk - 1)
          case measure => omega
          case rel => exact ⟨i + 1, _, rfl, by go_num, by omega, HA2, HR5, HB5⟩
      · have HT : Aside0 (vs.take i = vs) := ⟨List.take_of_length_le (by omega)⟩
        rw [HT.out] at HA HR
        go_wp2_with fail
        go_ret2
        exact ⟨HB.out.trans (HBr.out.mono HB.out.size), .inr (.inr ⟨k, _, HPF.out, HA.out, rfl, Kd.R_mono (Kd.R_lower HR.out HB.out.size) (fun k hk => by have h := HB.out.size; omega)⟩)⟩
end Go.Proofs.Ytcdlccnpbhjgkaa.Oo
namespace Go.Proofs.Ytcdlccnpbhjgkaa.Oo
open Go.RowKit Go.Maps Go.Proofs.YtcdlccnpbhjgkaaW.PrintWords Go.Proofs.YtcdlccnpbhjgkaaW.PrintLast Go.Proofs.YtcdlccnpbhjgkaaW.PrintMore
open Go.Proofs.Ytcdlccnpbhjgkaa.POrderBytes Go.Proofs.Ytcdlccnpbhjgkaa.Mp
set_option linter.unusedVariables false
set_option linter.unusedSimpArgs false
mutual
/-- Has each form of a shape a byte? -/
def someS : Sh → Bool
  | .mk c ks => if c = 91 then someL ks else true
def someL : List Sh → Bool
  | [] => false
  | k :: ks => someS k || someL ks
end
theorem some_eq (c : Int) (ks : List Sh) : someS (.mk c ks) = if c = 91 then someL ks else true := by
  conv => lhs; unfold someS
theorem someL_any : ∀ ks, someL ks = ks.any someS
  | [] => by simp [someL]
  | k :: ks => by
    conv => lhs; unfold someL
    rw [someL_any ks, List.any_cons]
def SomeC (k : Sh) : Prop := ∀ (w : World) (ok : Nat → Prop) (g : Nat), KindIs w ok k g →
  Calls Try.prog 94 #[.pointer (some ⟨g, 0, none⟩)] w fun e w' => e = .returned (.bool (someS k)) ∧ Below w.heap.size w w'
theorem cf94 (args : Array Value) (w : World) : (callFunc 94 args).run Try.prog w = .ok (.enter 94 args) w := by kernel_rfl
theorem any_take {α : Type} (p : α → Bool) (xs : List α) (i : Nat) (h : i < xs.length) : (xs.take (i + 1)).any p = ((xs.take i).any p || p xs[i]) := by
  rw [List.take_succ_eq_append_getElem h, List.any_append]
  simp
set_option maxRecDepth 100000 in
theorem kidx_calls (ks : List Sh) (ih : ∀ k ∈ ks, SomeC k) (A : Option Addr) (c : Nat) (gs : List Nat) (w : World) (ok : Nat → Prop) (hC : kP.C w A ks.length gs) (hk : ∀ (i : Nat) (h : i < ks.length), KindIs w ok ks[i] (gs.getD i 0)) :
    Calls Try.prog 116 #[.slice A ks.length c, .func (.func 94) #[] #[]] w fun e w' => ∃ r : Int, e = .returned (.int .i64 r) ∧ (0 ≤ r ↔ ks.any someS = true) ∧ Below w.heap.size w w' := by
  have HC := Aside0.mk hC
  have HK := Aside0.mk hk
  have IH := Aside0.mk ih
  have hmax := hC.2.1
  have hcf := cf94
  clear hC hk ih
  go_enter Try.func116, Try.ntmps116
  go_wp2_with fail
  go_loopg [5, 8] ks.length (fun kq v5 v8 wr => ∃ i : Nat, v8 = .int .i64 i ∧ i + kq = ks.length ∧ Aside0 ((ks.take i).any someS = false) ∧ Aside0 (Below w.heap.size w wr))
  case atStart => exact ⟨0, rfl, by omega, ⟨rfl⟩, ⟨Below.refl _ _⟩⟩
  case round =>
    obtain ⟨i, rfl, hi, HF, HBl⟩ := hrel
    by_cases hlt : i < ks.length
    · have hlt' : (i : Int) < (ks.length : Int) := by omega
      obtain ⟨pd, rfl, y0⟩ := at_P (Kd.C_below HC.out HBl.out) i hlt
      have HCL := Aside0.mk (IH.out ks[i] (List.getElem_mem hlt) wr ok _ ((HK.out i hlt).under HBl.out))
      have HT := Aside0.mk (any_take someS ks i hlt)
      have HM : Aside0 (someS ks[i] = true → ks.any someS = true) := ⟨fun h => List.any_eq_true.2 ⟨_, List.getElem_mem hlt, h⟩⟩
      generalize gs.getD i 0 = gi at y0 HCL
      go_wp2_with fail
      refine HCL.out.mono ?_
      rintro e w2 ⟨rfl, hB⟩
      have HB2 := Aside0.mk (HBl.out.trans (hB.mono HBl.out.size))
      clear hB y0 HCL
      generalize someS ks[i] = p at HT HM ⊢
      cases p with
      | true =>
        go_wp2_with fail
        go_ret
        exact ⟨_, rfl, ⟨fun _ => HM.out (by first | rfl | trivial), fun _ => by omega⟩, HB2.out⟩
      | false =>
        have HT2 : Aside0 ((ks.take (i + 1)).any someS = false) := ⟨by rw [HT.out, HF.out]; rfl⟩
        go_wp2_with fail
        go_roundg (gk - 1)
        case measure => omega
        case rel => exact ⟨i + 1, by go_num, by omega, HT2, HB2⟩
    · have HT2 : Aside0 (ks.any someS = false) := ⟨by
        have hf := HF.out
        rwa [List.take_of_length_le (by omega)] at hf⟩
      go_wp2_with fail
      go_ret
      exact ⟨-1, rfl, ⟨fun h => by omega, fun h => by rw [HT2.out] at h; cases h⟩, HBl.out⟩
set_option maxRecDepth 100000 in
theorem kany_calls (ks : List Sh) (ih : ∀ k ∈ ks, SomeC k) (A : Option Addr) (c : Nat) (gs : List Nat) (w : World) (ok : Nat → Prop) (hC : kP.C w A ks.length gs) (hk : ∀ (i : Nat) (h : i < ks.length), KindIs w ok ks[i] (gs.getD i 0)) :
    Calls Try.prog 104 #[.slice A ks.length c, .func (.func 94) #[] #[]] w fun e w' => e = .returned (.bool (ks.any someS)) ∧ Below w.heap.size w w' := by
  have HC := Aside0.mk (kidx_calls ks ih A c gs w ok hC hk)
  clear hC hk ih
  go_enter Try.func104, Try.ntmps104
  go_wp2_with fail
  refine HC.out.mono ?_
  rintro e w2 ⟨r, rfl, hr, hB⟩
  have HB := Aside0.mk hB
  have HR : Aside0 (decide (0 ≤ r) = ks.any someS) := ⟨by rw [Bool.eq_iff_iff, decide_eq_true_iff]; exact hr⟩
  clear hB hr
  go_wp2_with fail
  go_ret
  exact ⟨by rw [← HR.out]; rfl, HB.out⟩
set_option maxRecDepth 100000 in
theorem some_step (c : Int) (ks : List Sh) (ih : ∀ k ∈ ks, SomeC k) : SomeC (.mk c ks) := by
  intro w ok g hK
  cases hK with
  | mk hg hb hC hA hcap hw hk =>
    rename_i A cap gs
    have k0 : w.cell? ⟨g, 0, none⟩ = some (.int .u8 c) := (blk_cell hb 0).trans rfl
    have k1 : w.cell? ⟨g, 1, none⟩ = some (.slice A ks.length cap) := (blk_cell hb 1).trans rfl
    have HA := Aside0.mk (kany_calls ks ih A cap gs w ok hC hk)
    obtain ⟨bb, hbb⟩ : ∃ bb, someS (.mk c ks) = bb := ⟨_, rfl⟩
    have HBB := Aside0.mk hbb
    rw [some_eq] at hbb
    have HQ := Aside0.mk hbb
    clear hg hb hC hA hcap hw hk ih hbb
    by_cases h91 : c = 91
    · subst h91
      rw [if_pos rfl, someL_any] at HQ
      go_enter Try.func94, Try.ntmps94
      go_wp2_with fail
      refine HA.out.mono ?_
      rintro e w2 ⟨rfl, hB⟩
      have HB := Aside0.mk hB
      clear hB
      go_wp2_with fail
      go_ret
      exact ⟨by rw [HBB.out, ← HQ.out]; rfl, HB.out⟩
    · have t91 : (c != (91 : Int)) = true := by simpa using h91
      rw [if_neg h91] at HQ
      go_enter Try.func94, Try.ntmps94
      go_wp2_with fail
      go_ret
      exact ⟨by rw [HBB.out, ← HQ.out]; rfl, Below.refl _ _⟩
theorem some_calls : ∀ (k : Sh), SomeC k
  | .mk c ks => some_step c ks (fun k hk => some_calls k)
termination_by k => SizeOf.sizeOf k
decreasing_by
  have := List.sizeOf_lt_of_mem hk
  simp
  omega
end Go.Proofs.Ytcdlccnpbhjgkaa.Oo
namespace Go.Proofs.Ytcdlccnpbhjgkaa.Oo
open Go.RowKit Go.Maps Go.Proofs.YtcdlccnpbhjgkaaW.PrintWords Go.Proofs.YtcdlccnpbhjgkaaW.PrintLast Go.Proofs.YtcdlccnpbhjgkaaW.PrintMore
open Go.Proofs.Ytcdlccnpbhjgkaa.POrderBytes
set_option linter.unusedVariables false
set_option linter.unusedSimpArgs false
inductive Gd : Sh → Prop
  | num : Gd (.mk 110 [])
  | byt : Gd (.mk 98 [])
  | lst {k : Sh} (h : Gd k) : Gd (.mk 42 [k])
  | row {ks : List Sh} (h : ∀ k ∈ ks, Gd k) : Gd (.mk 91 ks)
mutual
/-- The text of a part. -/
def ren : Sh → List UInt8
  | .mk c ks => if c = 42 then 42 :: renL ks else if c = 91 then 91 :: (renL ks ++ [93]) else if c = 110 then [110] else [98]
def renL : List Sh → List UInt8
  | [] => []
  | k :: ks => ren k ++ renL ks
end
mutual
/-- How deep a part goes. -/
def dep : Sh → Nat
  | .mk c ks => depL ks
def depL : List Sh → Nat
  | [] => 0
  | k :: ks => max (dep k + 1) (depL ks)
end
theorem ren_num : ren (.mk 110 []) = [110] := by simp [ren]
theorem ren_byt : ren (.mk 98 []) = [98] := by simp [ren]
theorem ren_lst (k : Sh) : ren (.mk 42 [k]) = 42 :: ren k := by simp [ren, renL]
theorem ren_row (ks : List Sh) : ren (.mk 91 ks) = 91 :: (renL ks ++ [93]) := by
  conv => lhs; unfold ren
  rfl
theorem renL_nil : renL [] = [] := by simp [renL]
theorem renL_cons (k : Sh) (ks : List Sh) : renL (k :: ks) = ren k ++ renL ks := by
  conv => lhs; unfold renL
theorem dep_eq (c : Int) (ks : List Sh) : dep (.mk c ks) = depL ks := by
  conv => lhs; unfold dep
theorem depL_cons (k : Sh) (ks : List Sh) : depL (k :: ks) = max (dep k + 1) (depL ks) := by
  conv => lhs; unfold depL
theorem depL_nil : depL [] = 0 := by simp [depL]
theorem dep_mem {ks : List Sh} {k : Sh} (h : k ∈ ks) : dep k + 1 ≤ depL ks := by
  induction ks with
  | nil => cases h
  | cons a ks ih =>
    rw [depL_cons]
    rcases List.mem_cons.1 h with rfl | h
    · omega
    · have := ih h; omega
theorem ren_head {k : Sh} (h : Gd k) : ∃ c s, ren k = c :: s ∧ (c = 110 ∨ c = 98 ∨ c = 42 ∨ c = 91) := by
  cases h with
  | num => exact ⟨_, _, ren_num, by simp⟩
  | byt => exact ⟨_, _, ren_byt, by simp⟩
  | lst h => exact ⟨_, _, ren_lst _, by simp⟩
  | row h => exact ⟨_, _, ren_row _, by simp⟩
theorem ren_pos {k : Sh} (h : Gd k) : 0 < (ren k).length := by
  obtain ⟨c, s, e, _⟩ := ren_head h
  rw [e]; simp
theorem pt_ren : ∀ f, (∀ deep l k r, pt f deep l = some (k, r) → l = ren k ++ r ∧ Gd k ∧ dep k + deep ≤ 8) ∧ (∀ deep l ks r, deep ≤ 9 → pts f deep l = some (ks, r) → l = renL ks ++ 93 :: r ∧ (∀ k ∈ ks, Gd k) ∧ depL ks + deep ≤ 9)
  | 0 => ⟨fun _ _ _ _ h => by simp [pt] at h, fun _ _ _ _ _ h => by simp [pts] at h⟩
  | f + 1 => by
    obtain ⟨h1, h2⟩ := pt_ren f
    refine ⟨fun deep l k r h => ?_, fun deep l ks r hd h => ?_⟩
    · cases l with
      | nil => simp [pt] at h
      | cons c s =>
        unfold pt at h
        split at h
        · cases h
        · next hd =>
          split at h
          · next hc => cases h; subst hc; exact ⟨by rw [ren_num]; rfl, .num, by rw [dep_eq, depL_nil]; omega⟩
          · split at h
            · next hc => cases h; subst hc; exact ⟨by rw [ren_byt]; rfl, .byt, by rw [dep_eq, depL_nil]; omega⟩
            · split at h
              · next hc =>
                obtain ⟨p, hp, e⟩ := Option.map_eq_some_iff.1 h
                cases e
                obtain ⟨a, b, d⟩ := h1 _ _ p.1 p.2 hp
                subst hc
                exact ⟨by rw [ren_lst, a]; simp, .lst b, by rw [dep_eq, depL_cons, depL_nil]; omega⟩
              · split at h
                · next hc =>
                  obtain ⟨p, hp, e⟩ := Option.map_eq_some_iff.1 h
                  cases e
                  obtain ⟨a, b, d⟩ := h2 _ _ p.1 p.2 (by omega) hp
                  subst hc
                  exact ⟨by rw [ren_row, a]; simp, .row b, by rw [dep_eq]; omega⟩
                · cases h
    · cases l with
      | nil => simp [pts] at h
      | cons c s =>
        unfold pts at h
        split at h
        · next hc => cases h; subst hc; exact ⟨by rw [renL_nil]; rfl, fun k hk => by simp at hk, by rw [depL_nil]; omega⟩
        · split at h
          · cases h
          · next p hp =>
            obtain ⟨q, hq, e⟩ := Option.map_eq_some_iff.1 h
            cases e
            obtain ⟨a, b, d⟩ := h1 _ _ p.1 p.2 hp
            obtain ⟨a', b', d'⟩ := h2 _ _ q.1 q.2 hd hq
            refine ⟨by rw [renL_cons, a, a']; simp, fun k hk => ?_, by rw [depL_cons]; omega⟩
            rcases List.mem_cons.1 hk with rfl | hk
            · exact b
            · exact b' k hk
mutual
/-- The text of a part is parsed as the part. -/
theorem ren_pt : ∀ (k : Sh) (f deep : Nat) (r : List UInt8), Gd k → dep k + deep ≤ 8 → 2 * (ren k).length + 2 * r.length + 1 ≤ f → pt f deep (ren k ++ r) = some (k, r)
  | .mk c ks, f, deep, r, hg, hd, hf => by
    obtain ⟨f, rfl⟩ : ∃ m, f = m + 1 := ⟨f - 1, by omega⟩
    cases hg with
    | num => rw [ren_num]; unfold pt; simp; omega
    | byt => rw [ren_byt]; unfold pt; simp; omega
    | @lst k h =>
      rw [ren_lst] at hf ⊢
      rw [dep_eq, depL_cons, depL_nil] at hd
      simp only [List.length_cons] at hf
      have ih := ren_pt k f (deep + 1) r h (by omega) (by omega)
      simp only [List.cons_append]
      unfold pt
      rw [if_neg (by omega), if_neg (by decide), if_neg (by decide), if_pos rfl, ih]
      rfl
    | row h =>
      rw [ren_row] at hf ⊢
      rw [dep_eq] at hd
      simp only [List.length_cons, List.length_append, List.length_nil] at hf
      have ih := ren_pts ks f (deep + 1) r h (by omega) (by omega)
      have e : 91 :: (renL ks ++ [93]) ++ r = 91 :: (renL ks ++ 93 :: r) := by simp
      rw [e]
      unfold pt
      rw [if_neg (by omega), if_neg (by decide), if_neg (by decide), if_neg (by decide), if_pos rfl, ih]
      rfl
theorem ren_pts : ∀ (ks : List Sh) (f deep : Nat) (r : List UInt8), (∀ k ∈ ks, Gd k) → depL ks + deep ≤ 9 → 2 * (renL ks).length + 2 * r.length + 4 ≤ f → pts f deep (renL ks ++ 93 :: r) = some (ks, r)
  | [], f, deep, r, hg, hd, hf => by
    obtain ⟨f, rfl⟩ : ∃ m, f = m + 1 := ⟨f - 1, by omega⟩
    rw [renL_nil]
    simp only [List.nil_append]
    unfold pts
    rw [if_pos rfl]
  | k :: ks, f, deep, r, hg, hd, hf => by
    obtain ⟨f, rfl⟩ : ∃ m, f = m + 1 := ⟨f - 1, by omega⟩
    have hk := hg k (by simp)
    rw [depL_cons] at hd
    rw [renL_cons] at hf ⊢
    simp only [List.length_append] at hf
    have hp := ren_pos hk
    have ih1 := ren_pt k f deep (renL ks ++ 93 :: r) hk (by omega) (by simp only [List.length_append, List.length_cons]; omega)
    have ih2 := ren_pts ks f deep r (fun x hx => hg x (by simp [hx])) (by omega) (by omega)
    obtain ⟨c, s, e, hc⟩ := ren_head hk
    rw [List.append_assoc]
    rw [e] at ih1 ⊢
    simp only [List.cons_append] at ih1 ⊢
    unfold pts
    rw [if_neg (by rcases hc with h | h | h | h <;> (subst h; decide)), ih1]
    simp only
    rw [ih2]
    rfl
end
theorem parse_ren {l : List UInt8} {k : Sh} (h : parseF l = some k) : l = ren k ∧ Gd k ∧ dep k ≤ 8 ∧ l.length ≤ 64 := by
  unfold parseF at h
  split at h
  · cases h
  · next hl =>
    split at h
    · next k' hp =>
      cases h
      obtain ⟨a, b, c⟩ := (pt_ren _).1 _ _ _ _ hp
      exact ⟨by rw [a]; simp, b, by omega, by omega⟩
    · cases h
end Go.Proofs.Ytcdlccnpbhjgkaa.Oo
