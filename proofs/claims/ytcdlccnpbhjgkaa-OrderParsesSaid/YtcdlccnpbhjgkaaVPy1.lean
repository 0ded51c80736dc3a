/- Kept of the text Py1: what is reached (wip/tools/prune.py). -/
import Derived.Test.YtcdlccnpbhjgkaaVOm6
import Derived.Test.YtcdlccnpbhjgkaaVOnP
import Derived.Test.YtcdlccnpbhjgkaaVOb5
namespace Go.Proofs.Ytcdlccnpbhjgkaa.Oo
open Go.RowKit Go.Maps Go.Proofs.YtcdlccnpbhjgkaaW.PrintWords Go.Proofs.YtcdlccnpbhjgkaaW.PrintLast Go.Proofs.YtcdlccnpbhjgkaaW.PrintMore
open Go.Proofs.Ytcdlccnpbhjgkaa.POrderBytes
set_option linter.unusedVariables false
set_option linter.unusedSimpArgs false
def uN (n : Int) : Int := IntKind.u64.wrap n
theorem uN_range (n : Int) : 0 ≤ uN n ∧ uN n < 18446744073709551616 := by
  simp [uN, IntKind.wrap, IntKind.signed, IntKind.bits]
  omega
theorem uN_id {n : Int} (h0 : 0 ≤ n) (h1 : n < 18446744073709551616) : uN n = n := u64_big h0 h1
def numV (n : Int) : S33 := ⟨uN n, [], []⟩
def rowV (ns : List Int) : S33 := ⟨0, [], ns.map numV⟩
def numsB (ns : List Int) : List Int := (ns.map fun n => numB (uN n)).flatten
def kRow (j : Nat) : Sh := .mk 91 (List.replicate j (.mk 110 []))
def kRows (j : Nat) : Sh := .mk 42 [kRow j]
def formB (tag : Int) (nss : List (List Int)) : List Int := tag :: (numB nss.length ++ (nss.map numsB).flatten)
theorem put_n (n : Int) : putS (.mk 110 []) (numV n) = numB (uN n) := by simp [put_eq, numV]
theorem putL_nums : ∀ (ns : List Int), putL (List.replicate ns.length (.mk 110 [])) (ns.map numV) = numsB ns
  | [] => by simp [putL, numsB]
  | n :: ns => by
    rw [List.length_cons, List.replicate_succ, List.map_cons]
    conv => lhs; unfold putL
    rw [put_n, putL_nums ns]
    simp [numsB]
theorem put_row {ns : List Int} {j : Nat} (h : ns.length = j) : putS (kRow j) (rowV ns) = numsB ns := by
  subst h
  unfold kRow rowV
  rw [put_eq, if_neg (by decide), if_neg (by decide), if_neg (by decide)]
  exact putL_nums ns
theorem put_rows {nss : List (List Int)} {j : Nat} (h : ∀ ns ∈ nss, ns.length = j) : putS (kRows j) ⟨0, [], nss.map rowV⟩ = numB nss.length ++ (nss.map numsB).flatten := by
  unfold kRows
  rw [put_eq, if_neg (by decide), if_neg (by decide), if_pos rfl, putA_cons]
  simp only [List.length_map, List.map_map]
  congr 2
  apply List.map_congr_left
  intro ns hns
  exact put_row (h ns hns)
theorem has_n (v : S33) : hasS (.mk 110 []) v = true := by simp [has_eq]
theorem hasL_nums : ∀ (ns : List Int), hasL (List.replicate ns.length (.mk 110 [])) (ns.map numV) = true
  | [] => by simp [hasL]
  | n :: ns => by
    rw [List.length_cons, List.replicate_succ, List.map_cons]
    conv => lhs; unfold hasL
    rw [has_n, hasL_nums ns]
    rfl
theorem has_row {ns : List Int} {j : Nat} (h : ns.length = j) : hasS (kRow j) (rowV ns) = true := by
  subst h
  unfold kRow rowV
  rw [has_eq, if_neg (by decide), if_pos rfl]
  simp only [List.length_map, List.length_replicate]
  rw [hasL_nums]
  simp
theorem has_rows {nss : List (List Int)} {j : Nat} (h : ∀ ns ∈ nss, ns.length = j) : hasS (kRows j) ⟨0, [], nss.map rowV⟩ = true := by
  unfold kRows
  rw [has_eq, if_pos rfl, hasA_cons, List.all_eq_true]
  intro v hv
  obtain ⟨ns, hns, rfl⟩ := List.mem_map.1 hv
  exact has_row (h ns hns)
theorem wf_num (n : Int) : WfS (numV n) := .mk (uN_range n).1 (uN_range n).2 (fun x hx => by simp [numV] at hx)
theorem wf_row (ns : List Int) : WfS (rowV ns) := .mk (by show (0 : Int) ≤ 0; decide) (by show (0 : Int) < _; decide) (fun x hx => by
  obtain ⟨n, _, rfl⟩ := List.mem_map.1 hx
  exact wf_num n)
theorem wf_rows (nss : List (List Int)) : WfS ⟨0, [], nss.map rowV⟩ := .mk (by show (0 : Int) ≤ 0; decide) (by show (0 : Int) < _; decide) (fun x hx => by
  obtain ⟨n, _, rfl⟩ := List.mem_map.1 hx
  exact wf_row n)
theorem numsB_le : ∀ ns : List Int, (numsB ns).length ≤ 9 * ns.length ∧ ns.length ≤ (numsB ns).length
  | [] => by simp [numsB]
  | n :: ns => by
    have := numsB_le ns
    have h := numB_len (uN n)
    unfold numsB at *
    simp only [List.map_cons, List.flatten_cons, List.length_append, List.length_cons]
    omega
theorem flat_len {j : Nat} : ∀ {nss : List (List Int)}, (∀ ns ∈ nss, ns.length = j) → ((nss.map numsB).flatten).length ≤ 9 * j * nss.length ∧ j * nss.length ≤ ((nss.map numsB).flatten).length
  | [], _ => by simp
  | ns :: nss, h => by
    have ih := flat_len (nss := nss) (fun x hx => h x (by simp [hx]))
    have h1 := numsB_le ns
    have h2 := h ns (by simp)
    simp only [List.map_cons, List.flatten_cons, List.length_append, List.length_cons, Nat.mul_add, Nat.mul_one]
    rw [h2] at h1
    omega
theorem some_row {j : Nat} (h : 0 < j) : someS (kRow j) = true := by
  obtain ⟨j, rfl⟩ : ∃ m, j = m + 1 := ⟨j - 1, by omega⟩
  unfold kRow
  rw [some_eq, if_pos rfl, someL_any, List.replicate_succ]
  simp [some_eq]
def numsOf (v : S33) : List (List Int) := v.f2.map fun x => x.f2.map (·.f0)
def bigV (v : S33) : Bool := v.f2.any fun x => x.f2.any fun y => decide (1099511627776 ≤ y.f0)
def takeO (l : List UInt8) (tag : Int) (bs : List Int) : List (List Int) × Int :=
  match bs with
  | [] => ([], 11)
  | t :: r => if t ≠ tag then ([], 13) else if (takeTop l r).2 ≠ 0 then ([], (takeTop l r).2) else if bigV (takeTop l r).1 then ([], 13) else (numsOf (takeTop l r).1, 0)
end Go.Proofs.Ytcdlccnpbhjgkaa.Oo
namespace Go.Proofs.Ytcdlccnpbhjgkaa.Oo
open Go.RowKit Go.Maps Go.Proofs.YtcdlccnpbhjgkaaW.PrintWords Go.Proofs.YtcdlccnpbhjgkaaW.PrintLast Go.Proofs.YtcdlccnpbhjgkaaW.PrintMore
open Go.Proofs.Ytcdlccnpbhjgkaa.POrderBytes Go.Proofs.Ytcdlccnpbhjgkaa.Mp
set_option linter.unusedVariables false
set_option linter.unusedSimpArgs false
theorem row_val (ns : List Int) (hl : ns.length ≤ 1000) : ∀ (d i : Nat) (xs : List S33), i + d = ns.length → xs.length = i → Ev (fun k => order_row.l0 k ns (ns.length : Int) (i : Int) 0 xs) (0, [], xs ++ (ns.drop i).map numV)
  | 0, i, xs, h, hx => by
    refine Ev.step (f := fun k => some (0, ([] : List Int), xs)) (fun k => ?_) ?_
    · conv => lhs; unfold order_row.l0
      rw [if_neg (by omega)]
    · rw [List.drop_of_length_le (by omega)]
      simpa using Ev.now _
  | d + 1, i, xs, h, hx => by
    have hlt : i < ns.length := by omega
    have hr : rd ns (i : Int) = ns[i] := by simp [rd, hlt]
    have hw : wrap64 ((i : Int) + 1) = ((i + 1 : Nat) : Int) := by unfold wrap64; omega
    refine Ev.step (f := fun k => order_row.l0 k ns (ns.length : Int) ((i + 1 : Nat) : Int) 0 (xs ++ [numV ns[i]])) (fun k => ?_) ?_
    · conv => lhs; unfold order_row.l0
      rw [if_pos (by omega), if_pos (by omega), if_pos (by omega), if_pos (by omega), hr, hw]
      rfl
    · have ih := row_val ns hl d (i + 1) (xs ++ [numV ns[i]]) (by omega) (by simp; omega)
      have e : xs ++ (ns.drop i).map numV = (xs ++ [numV ns[i]]) ++ (ns.drop (i + 1)).map numV := by
        rw [List.drop_eq_getElem_cons hlt, List.map_cons, List.append_assoc]
        rfl
      rw [e]
      exact ih
theorem row_calls (A : Option Addr) (c : Nat) (ns : List Int) (w : World) (hC : (Kd.int .i64).C w A ns.length ns) (hc : ns.length ≤ c) (hl : ns.length ≤ 1000) :
    Calls Try.prog 82 #[.slice A ns.length c] w fun e w' => ∃ v1 v2 : Value, e = .returned (.agg #[.int .u64 0, v1, v2]) ∧ k33.M w' w.heap.size (fun k => w.heap.size ≤ k) (rowV ns) [.int .u64 0, v1, v2] ∧ Below w.heap.size w w' := by
  obtain ⟨k, hk⟩ := (row_val ns hl ns.length 0 [] (by omega) rfl).rounds
  rw [List.drop_zero, List.nil_append] at hk
  refine (order_row.calls k A c ns 0 [] _ w hC hc hk).mono ?_
  rintro e w' ⟨v1, v2, he, hR1, hR2, hB⟩
  exact ⟨v1, v2, he, k33_mkM _ _ _ (rowV ns) (Kd.R_mono (Kd.R_bound hR1) (fun k hk => hk.2.1)) (Kd.R_mono (Kd.R_bound hR2) (fun k hk => hk.2.1)), hB⟩
theorem C33_new (w : World) (ps : List S33) (inner : List Value) (hr : Reps (k33.K w) 3 ps inner) (hm : ps.length ≤ 9223372036854775807) : k33.C (w.alloc (.cells inner.toArray 33)) (some ⟨w.heap.size, 0, none⟩) ps.length ps := by
  have h := OwnRow.lit (e := 33) w w.heap.size hr (Nat.le_refl _) hm
  obtain ⟨A, c, he, _, hC⟩ := h.reads
  cases he
  exact hC.imp_ (Below.refl _ _) (fun p c hp => k33.K_below ((Below.refl _ _).alloc (Nat.le_refl _) _) hp)
theorem reps33 {w : World} {x : S33} {cs : List Value} (h : k33.K w x cs) : Reps (k33.K w) 3 [x] cs := by
  have := Reps.snoc (Reps.none (k33.K w) 3) h (k33.K_len h)
  simpa using this
theorem put_ok {l : List UInt8} {vs : List S33} {k : Sh} {out : List Int} {w : World} {e : Ending} {w' : World} (h : PutTopQ l vs w e w') (hp : parseF l = some k) (hh : vs.all (hasS k) = true) (ho : (vs.map (putS k)).flatten = out) :
    Below w.heap.size w w' ∧ ∃ A c, e = .returned (.tuple #[.slice A out.length c, .int .i64 0]) ∧ out.length ≤ c ∧ (Kd.int .u8).C w' A out.length out := by
  obtain ⟨hB, h | ⟨k', h1, h2, h3⟩ | ⟨k', v0, h1, h2, h3, h4⟩⟩ := h
  · rw [h.1] at hp; cases hp
  · rw [hp] at h1; cases h1; rw [hh] at h2; cases h2
  · rw [hp] at h1; cases h1
    rw [ho] at h4
    obtain ⟨A, c, rfl, hc, hC⟩ := Kd.R_reads h4
    exact ⟨hB, A, c, h3, hc, hC⟩
theorem take_ok {r : S33 × Int} {w : World} {E : Ending} {w' : World} (h : TakeTopQ r w E w') :
    Below w.heap.size w w' ∧ ∃ A1 c1 A2 c2, E = .returned (.tuple #[.agg #[.int .u64 r.1.f0, .slice A1 r.1.f1.length c1, .slice A2 r.1.f2.length c2], .int .i64 r.2]) ∧ r.1.f1.length ≤ c1 ∧ (Kd.int .u8).C w' A1 r.1.f1.length r.1.f1 ∧ r.1.f2.length ≤ c2 ∧ k33.C w' A2 r.1.f2.length r.1.f2 := by
  obtain ⟨hB, u1, u2, he, hM⟩ := h
  obtain ⟨v1, v2, e0, hR1, hR2⟩ := k33_openM hM
  obtain ⟨A1, c1, rfl, h1, h2⟩ := Kd.R_reads hR1
  obtain ⟨A2, c2, rfl, h3, h4⟩ := Kd.R_reads hR2
  cases e0
  exact ⟨hB, A1, c1, A2, c2, he, h1, h2, h3, h4⟩
theorem lit1 (W : World) (x : Int) : (Kd.int .u8).R 5 (W.alloc (.cells #[.int .u8 x] 5)) W.heap.size (fun k => W.heap.size ≤ k) (.slice (some ⟨W.heap.size, 0, none⟩) 1 1) [x] := by
  have hr : Reps ((Kd.int .u8).M W W.heap.size (fun k => W.heap.size ≤ k ∧ some k ≠ (Value.slice (some ⟨W.heap.size, 0, none⟩) 1 1).ownBlock)) 1 [x] [.int .u8 x] := by
    have := Reps.snoc (Reps.none ((Kd.int .u8).M W W.heap.size (fun k => W.heap.size ≤ k ∧ some k ≠ (Value.slice (some ⟨W.heap.size, 0, none⟩) 1 1).ownBlock)) 1) (p := x) (c := [.int .u8 x]) rfl rfl
    simpa using this
  refine ⟨fun k hk => ?_, ?_⟩
  · simp [Value.ownBlock] at hk
    omega
  · have h := OwnRow.lit (e := 5) W W.heap.size hr (Nat.le_refl _) (by simp)
    exact h.imp_ (fun p c hp => hp)
theorem nine {j n : Nat} (hj : j ≤ 10) (hn : n ≤ 100) : 9 * j * n ≤ 9000 := by
  have h1 : 9 * j ≤ 90 := by omega
  have := Nat.mul_le_mul h1 hn
  omega
set_option maxHeartbeats 2000000 in
set_option maxRecDepth 100000 in
theorem bytes_calls (tag : Int) (l : List UInt8) (j : Nat) (hp : parseF l = some (kRows j)) (nss : List (List Int)) (hj : ∀ ns ∈ nss, ns.length = j) (hj10 : j ≤ 10) (hn : nss.length ≤ 100) (A : Option Addr) (c : Nat) (w : World) (hC : k33.C w A nss.length (nss.map rowV)) (hc : nss.length ≤ c) :
    Calls Try.prog 83 #[.int .u8 tag, .string (str l), .slice A nss.length c] w fun e w' => ∃ A' c', e = .returned (.slice A' (formB tag nss).length c') ∧ (formB tag nss).length ≤ c' ∧ (Kd.int .u8).C w' A' (formB tag nss).length (formB tag nss) ∧ Below w.heap.size w w' := by
  have hlen : (nss.map rowV).length = nss.length := List.length_map _
  have hf := (flat_len hj).1
  have hnb := numB_len (nss.length : Int)
  have h9 := nine hj10 hn
  have hout : ([(⟨0, [], nss.map rowV⟩ : S33)].map (putS (kRows j))).flatten = numB nss.length ++ (nss.map numsB).flatten := by
    simp only [List.map_cons, List.map_nil, List.flatten_cons, List.flatten_nil, List.append_nil]
    exact put_rows hj
  have hol : (numB (nss.length : Int) ++ (nss.map numsB).flatten).length ≤ 10000 := by simp only [List.length_append]; omega
  have HB1 : Aside0 (Below w.heap.size w (w.alloc (.cells #[.int .u64 0, .slice none 0 0, .slice A nss.length c] 33))) := ⟨(Below.refl _ _).alloc (Nat.le_refl _) _⟩
  have HP : Aside0 (Calls Try.prog 17 #[.string (str l), .slice (some ⟨w.heap.size, 0, none⟩) 1 1] (w.alloc (.cells #[.int .u64 0, .slice none 0 0, .slice A nss.length c] 33)) (PutTopQ l [⟨0, [], nss.map rowV⟩] (w.alloc (.cells #[.int .u64 0, .slice none 0 0, .slice A nss.length c] 33)))) := ⟨by
    have hK := k33_mk w ⟨0, [], nss.map rowV⟩ (A1 := none) (c1 := 0) (Nat.le_refl _) (Kd.C_nil _ _) (A2 := A) (c2 := c) (by rw [hlen]; exact hc) (by rw [hlen]; exact hC)
    simp only [hlen, List.length_nil] at hK
    refine Put_calls l [⟨0, [], nss.map rowV⟩] _ 1 _ (C33_new w [⟨0, [], nss.map rowV⟩] _ (reps33 hK) (by simp)) (by simp) (fun v hv => ?_) (fun k hk => ?_)
    · simp only [List.mem_singleton] at hv
      subst hv
      exact wf_rows nss
    · rw [hp] at hk
      cases hk
      rw [hout]
      omega⟩
  have HOK := Aside0.mk (fun (W : World) (e : Ending) (w' : World) (h : PutTopQ l [⟨0, [], nss.map rowV⟩] W e w') => put_ok h hp (by rw [List.all_cons, has_rows hj]; rfl) hout)
  obtain ⟨out, hout2⟩ : ∃ out, numB (nss.length : Int) ++ (nss.map numsB).flatten = out := ⟨_, rfl⟩
  have hform : formB tag nss = [tag] ++ out := by unfold formB; rw [hout2]; rfl
  rw [hform]
  rw [hout2] at hol HOK
  clear hp hf hnb h9 hout hlen hC hform hout2
  generalize str l = sb at HP ⊢
  go_enter Try.func83, Try.ntmps83
  go_wp2_with fail
  refine HP.out.mono ?_
  rintro e w2 hq
  obtain ⟨hB, A2, c2, rfl, hc2, hC2⟩ := HOK.out _ _ _ hq
  have HB2 := Aside0.mk (HB1.out.trans (hB.mono HB1.out.size))
  have HC2 := Aside0.mk hC2
  have HOL := Aside0.mk hol
  have HBA : Aside0 (Below w2.heap.size w2 (w2.alloc (.cells #[.int .u8 tag] 5))) := ⟨(Below.refl _ _).alloc (Nat.le_refl _) _⟩
  have HL := Aside0.mk (lit1 w2 tag)
  clear hq hB hc2 hC2 HP HOK HB1 hol
  go_wp2_with ((with_reducible refine gate_builtin (b := .append) (xs := #[.tmp 18, .tmp 19]) rfl ?_); at_builtin; refine Kd.R_append_rows (Kd.int .u8) (w0 := w2) w2.heap.size rfl (.tmp 18) (.tmp 19) 27 5 (.int .u8 0) 1 rfl Try.underlying27 info5 rfl (by decide) (by decide) (.slice (some ⟨w2.heap.size, 0, none⟩) 1 1) [tag] out _ _ _ (fun k => w2.heap.size ≤ k) (fun _ => False) rfl rfl ?aO ?aR (fun _ _ h => h) (fun _ hk => hk.elim) ?aF ?aB ?aS ?aL ?_; (case aO => exact HL.out); (case aR => exact Kd.C_below HC2.out HBA.out); (case aF => exact fun k hk => Nat.le_trans HBA.out.size hk); (case aB => exact HBA.out); (case aS => exact HBA.out.size); (case aL => have := HOL.out; simp; omega); intro v5 w5 ho hb hg hat; obtain ⟨A5, c5, ev5, hc5, hC5⟩ := Kd.R_reads ho; subst ev5; have HB5 := Aside0.mk (HB2.out.trans (hb.mono HB2.out.size)); have HC5 := Aside0.mk (And.intro hc5 hC5); clear ho hb hg hat hc5 hC5)
  go_ret
  exact ⟨A5, c5, rfl, HC5.out.1, HC5.out.2, HB5.out⟩
end Go.Proofs.Ytcdlccnpbhjgkaa.Oo
namespace Go.Proofs.Ytcdlccnpbhjgkaa.Oo
open Go.RowKit Go.Maps Go.Proofs.YtcdlccnpbhjgkaaW.PrintWords Go.Proofs.YtcdlccnpbhjgkaaW.PrintLast Go.Proofs.YtcdlccnpbhjgkaaW.PrintMore
open Go.Proofs.Ytcdlccnpbhjgkaa.POrderBytes Go.Proofs.Ytcdlccnpbhjgkaa.Mp
set_option linter.unusedVariables false
set_option linter.unusedSimpArgs false
def oN (o : S82) : List Int := [o.f0, o.f1, o.f2, o.f3]
def sh4 : List UInt8 := [42, 91, 110, 110, 110, 110, 93]
theorem p_4 : parseF sh4 = some (kRows 4) := by rfl
theorem take_map {α β : Type} (f : α → β) (xs : List α) (i : Nat) (h : i < xs.length) : (xs.take (i + 1)).map f = (xs.take i).map f ++ [f xs[i]] := by
  rw [List.take_succ_eq_append_getElem h, List.map_append]
  rfl
set_option maxHeartbeats 2000000 in
set_option maxRecDepth 100000 in
theorem Bytes_calls (os : List S82) (A : Option Addr) (c : Nat) (w : World) (hC : k82.C w A os.length os) (hc : os.length ≤ c) (hn : os.length ≤ 100) :
    Calls Try.prog 48 #[.slice A os.length c] w fun e w' => ∃ A' c', e = .returned (.slice A' (formB 1 (os.map oN)).length c') ∧ (formB 1 (os.map oN)).length ≤ c' ∧ (Kd.int .u8).C w' A' (formB 1 (os.map oN)).length (formB 1 (os.map oN)) ∧ Below w.heap.size w w' := by
  have HC := Aside0.mk hC
  clear hC
  obtain ⟨fb, hfb⟩ : ∃ fb, formB 1 (os.map oN) = fb := ⟨_, rfl⟩
  have HFB := Aside0.mk hfb
  rw [hfb]
  clear hfb
  go_enter Try.func48, Try.ntmps48
  go_wp2_with fail
  go_loopg [3, 5, 8] os.length (fun kq v3 v5 v8 wr => ∃ (i : Nat) (A5 : Option Addr) (c5 : Nat), v8 = .int .i64 i ∧ v3 = .slice A5 i c5 ∧ i + kq = os.length ∧ Aside0 (k33.R 33 wr w.heap.size (fun k => w.heap.size ≤ k) (.slice A5 i c5) ((os.take i).map fun o => rowV (oN o))) ∧ Aside0 (Below w.heap.size w wr))
  case atStart => exact ⟨0, none, 0, rfl, rfl, by omega, ⟨Kd.R_nil _ _ _ _ _⟩, ⟨Below.refl _ _⟩⟩
  case round =>
    obtain ⟨i, A5, c5, rfl, rfl, hi, HR, HB⟩ := hrel
    by_cases hlt : i < os.length
    · have hlt' : (i : Int) < (os.length : Int) := by omega
      obtain ⟨ad, rfl, x0, x1, x2, x3⟩ := at_T82 (Kd.C_below HC.out HB.out) i (by omega) hlt'
      simp only [Int.toNat_natCast] at x0 x1 x2 x3
      have HT := Aside0.mk (take_map (fun o => rowV (oN o)) os i hlt)
      have hrd : rd_T82 os (i : Int) = os[i] := by simp [rd_T82, hlt]
      rw [hrd] at x0 x1 x2 x3
      clear hrd
      generalize os[i] = q at x0 x1 x2 x3 HT
      have hN := blk_new wr (.cells #[.int .i64 q.f0, .int .i64 q.f1, .int .i64 q.f2, .int .i64 q.f3] 82)
      have HB1 : Aside0 (Below wr.heap.size wr (wr.alloc (.cells #[.int .i64 q.f0, .int .i64 q.f1, .int .i64 q.f2, .int .i64 q.f3] 82))) := ⟨(Below.refl _ _).alloc (Nat.le_refl _) _⟩
      go_upto_region 5 with fail
      generalize wr.alloc (.cells #[.int .i64 q.f0, .int .i64 q.f1, .int .i64 q.f2, .int .i64 q.f3] 82) = W1 at hN HB1 ⊢
      have q0 : W1.cell? ⟨wr.heap.size, 0, none⟩ = some (.int .i64 q.f0) := (blk_cell hN 0).trans rfl
      have q1 : W1.cell? ⟨wr.heap.size, 1, none⟩ = some (.int .i64 q.f1) := (blk_cell hN 1).trans rfl
      have q2 : W1.cell? ⟨wr.heap.size, 2, none⟩ = some (.int .i64 q.f2) := (blk_cell hN 2).trans rfl
      have q3 : W1.cell? ⟨wr.heap.size, 3, none⟩ = some (.int .i64 q.f3) := (blk_cell hN 3).trans rfl
      have HCR := Aside0.mk (row_calls (some ⟨W1.heap.size, 0, none⟩) 4 (oN q) (W1.alloc (.cells #[.int .i64 q.f0, .int .i64 q.f1, .int .i64 q.f2, .int .i64 q.f3] 3)) (C_of_blk (xs := oN q) (ys := []) (blk_new W1 _) (by simp [oN])) (by simp [oN]) (by simp [oN]))
      have HB2 : Aside0 (Below wr.heap.size wr (W1.alloc (.cells #[.int .i64 q.f0, .int .i64 q.f1, .int .i64 q.f2, .int .i64 q.f3] 3))) := ⟨HB1.out.alloc HB1.out.size _⟩
      have HBL := Aside0.mk (Kd.R_lt HR.out)
      clear x0 x1 x2 x3 hN HB1
      go_wp2_with fail
      refine HCR.out.mono ?_
      rintro e w3 ⟨v1, v2, rfl, hM, hB⟩
      have HB3 := Aside0.mk (HB2.out.trans (hB.mono HB2.out.size))
      have HM := Aside0.mk hM
      have HZ2 := Aside0.mk HB2.out.size
      have HBW := Aside0.mk HB.out.size
      have HR3 := Aside0.mk (Kd.R_below HR.out HB3.out)
      have HB4 := Aside0.mk (HB.out.trans (HB3.out.mono HB.out.size))
      have HLen : Aside0 (((os.take i).map fun o => rowV (oN o)).length = i) := ⟨by simp; omega⟩
      have HLI : Aside0 (((os.take (i + 1)).map fun o => rowV (oN o)).length = i + 1) := ⟨by simp; omega⟩
      clear hM hB HCR q0 q1 q2 q3 HB HR
      generalize (os.take i).map (fun o => rowV (oN o)) = xs at HR3 HT HLen
      go_wp2_with ((with_reducible refine gate_builtin (b := .append) (xs := #[.tmp 12, .tmp 23]) rfl ?_); at_builtin; refine Kd.R_append k33 (w0 := w) w.heap.size rfl (.tmp 12) (.tmp 23) 31 33 (.agg #[(.int .u64 0), (.slice none 0 0), (.slice none 0 0)]) 56 rfl Try.underlying31 info33 rfl (by decide) (by decide) (.slice A5 i c5) xs (rowV (oN q)) [.int .u64 0, v1, v2] (fun k => w.heap.size ≤ k) (fun k => wr.heap.size ≤ k) rfl rfl ?aP ?aK ?aF ?aO ?aB ?aS ?aL ?_; (case aP => exact k33.M_mono (fun k hk => Nat.le_trans HZ2.out hk) (k33.M_lower (Nat.le_trans HBW.out HZ2.out) HM.out)); (case aK => exact fun k hk => ⟨Nat.le_trans HBW.out hk, fun e => by have h1 := HBL.out k e.symm; have h2 : wr.heap.size ≤ k := hk; omega⟩); (case aF => exact fun k hk => Nat.le_trans (Nat.le_trans HBW.out HB3.out.size) hk); (case aO => exact HR3.out); (case aB => exact HB4.out); (case aS => exact HB4.out.size); (case aL => rw [HLen.out]; omega); intro v5 w5 ho hb5 hg hat; rw [← HT.out] at ho; obtain ⟨A6, c6, ev6⟩ := Kd.R_slice ho; rw [HLI.out] at ev6; subst ev6; have HO5 := Aside0.mk ho; have HB5 := Aside0.mk hb5; clear ho hb5 hg hat)
      go_wp2_with fail
      go_roundg (gk - 1)
      case measure => omega
      case rel => exact ⟨i + 1, A6, c6, by go_num, rfl, by omega, HO5, HB5⟩
    · have hie : i = os.length := by omega
      have HT : Aside0 ((os.take i).map (fun o => rowV (oN o)) = (os.map oN).map rowV) := ⟨by rw [List.take_of_length_le (by omega), List.map_map]; rfl⟩
      rw [HT.out] at HR
      obtain ⟨h1, h2, h3⟩ := Kd.R_reads' HR.out
      have hml : (os.map oN).length = i := by rw [List.length_map]; exact hie.symm
      have hC5 : k33.C wr A5 (os.map oN).length ((os.map oN).map rowV) := by rw [hml]; rw [← h1] at h3; exact h3
      have HCB := bytes_calls 1 sh4 4 p_4 (os.map oN) (fun ns hns => by obtain ⟨o, _, rfl⟩ := List.mem_map.1 hns; rfl) (by omega) (by omega) A5 c5 wr hC5 (by omega)
      rw [hml, HFB.out] at HCB
      have HCB := Aside0.mk HCB
      have HBB := HB
      clear h1 h2 h3 hml hC5 HT HR HC HFB hie
      go_wp2_with fail
      refine HCB.out.mono ?_
      rintro e w2 ⟨A', c', rfl, hc', hC', hB⟩
      have HQ := Aside0.mk (And.intro hc' (And.intro hC' (HBB.out.trans (hB.mono HBB.out.size))))
      clear hc' hC' hB HCB
      go_wp2_with fail
      go_ret
      exact ⟨A', c', rfl, HQ.out.1, HQ.out.2.1, HQ.out.2.2⟩
end Go.Proofs.Ytcdlccnpbhjgkaa.Oo
namespace Go.Proofs.Ytcdlccnpbhjgkaa.Oo
open Go.RowKit Go.Maps Go.Proofs.YtcdlccnpbhjgkaaW.PrintWords Go.Proofs.YtcdlccnpbhjgkaaW.PrintLast Go.Proofs.YtcdlccnpbhjgkaaW.PrintMore
open Go.Proofs.Ytcdlccnpbhjgkaa.POrderBytes Go.Proofs.Ytcdlccnpbhjgkaa.Mp
set_option linter.unusedVariables false
set_option linter.unusedSimpArgs false
def rN (o : S99) : List Int := [o.f0, o.f1, o.f2, o.f3, o.f4, if o.f5 then 1 else 0]
def sh6 : List UInt8 := [42, 91, 110, 110, 110, 110, 110, 110, 93]
theorem p_6 : parseF sh6 = some (kRows 6) := by rfl
set_option maxHeartbeats 2000000 in
set_option maxRecDepth 100000 in
theorem ReportBytes_calls (os : List S99) (A : Option Addr) (c : Nat) (w : World) (hC : k99.C w A os.length os) (hc : os.length ≤ c) (hn : os.length ≤ 100) :
    Calls Try.prog 49 #[.slice A os.length c] w fun e w' => ∃ A' c', e = .returned (.slice A' (formB 2 (os.map rN)).length c') ∧ (formB 2 (os.map rN)).length ≤ c' ∧ (Kd.int .u8).C w' A' (formB 2 (os.map rN)).length (formB 2 (os.map rN)) ∧ Below w.heap.size w w' := by
  have HC := Aside0.mk hC
  clear hC
  obtain ⟨fb, hfb⟩ : ∃ fb, formB 2 (os.map rN) = fb := ⟨_, rfl⟩
  have HFB := Aside0.mk hfb
  rw [hfb]
  clear hfb
  go_enter Try.func49, Try.ntmps49
  go_wp2_with fail
  go_loopg [3, 5, 6, 9] os.length (fun kq v3 v5 v6 v9 wr => ∃ (i : Nat) (A5 : Option Addr) (c5 : Nat), v9 = .int .i64 i ∧ v3 = .slice A5 i c5 ∧ i + kq = os.length ∧ Aside0 (k33.R 33 wr w.heap.size (fun k => w.heap.size ≤ k) (.slice A5 i c5) ((os.take i).map fun o => rowV (rN o))) ∧ Aside0 (Below w.heap.size w wr))
  case atStart => exact ⟨0, none, 0, rfl, rfl, by omega, ⟨Kd.R_nil _ _ _ _ _⟩, ⟨Below.refl _ _⟩⟩
  case round =>
    obtain ⟨i, A5, c5, rfl, rfl, hi, HR, HB⟩ := hrel
    by_cases hlt : i < os.length
    · have hlt' : (i : Int) < (os.length : Int) := by omega
      obtain ⟨ad, rfl, x0, x1, x2, x3, x4, x5⟩ := at_T99 (Kd.C_below HC.out HB.out) i (by omega) hlt'
      simp only [Int.toNat_natCast] at x0 x1 x2 x3 x4 x5
      have HT := Aside0.mk (take_map (fun o => rowV (rN o)) os i hlt)
      have hrd : rd_T99 os (i : Int) = os[i] := by simp [rd_T99, hlt]
      rw [hrd] at x0 x1 x2 x3 x4 x5
      clear hrd
      generalize os[i] = q at x0 x1 x2 x3 x4 x5 HT
      have hN := blk_new wr (.cells #[.int .i64 q.f0, .int .i64 q.f1, .int .i64 q.f2, .int .i64 q.f3, .int .i64 q.f4, .bool q.f5] 99)
      have HB1 : Aside0 (Below wr.heap.size wr (wr.alloc (.cells #[.int .i64 q.f0, .int .i64 q.f1, .int .i64 q.f2, .int .i64 q.f3, .int .i64 q.f4, .bool q.f5] 99))) := ⟨(Below.refl _ _).alloc (Nat.le_refl _) _⟩
      go_upto_region 5 with fail
      generalize wr.alloc (.cells #[.int .i64 q.f0, .int .i64 q.f1, .int .i64 q.f2, .int .i64 q.f3, .int .i64 q.f4, .bool q.f5] 99) = W1 at hN HB1 ⊢
      have q0 : W1.cell? ⟨wr.heap.size, 0, none⟩ = some (.int .i64 q.f0) := (blk_cell hN 0).trans rfl
      have q1 : W1.cell? ⟨wr.heap.size, 1, none⟩ = some (.int .i64 q.f1) := (blk_cell hN 1).trans rfl
      have q2 : W1.cell? ⟨wr.heap.size, 2, none⟩ = some (.int .i64 q.f2) := (blk_cell hN 2).trans rfl
      have q3 : W1.cell? ⟨wr.heap.size, 3, none⟩ = some (.int .i64 q.f3) := (blk_cell hN 3).trans rfl
      have q4 : W1.cell? ⟨wr.heap.size, 4, none⟩ = some (.int .i64 q.f4) := (blk_cell hN 4).trans rfl
      have q5 : W1.cell? ⟨wr.heap.size, 5, none⟩ = some (.bool q.f5) := (blk_cell hN 5).trans rfl
      cases hg : q.f5 with
      | true =>
        have HHG := Aside0.mk hg
        rw [hg] at q5
        have HCR := Aside0.mk (row_calls (some ⟨W1.heap.size, 0, none⟩) 6 (rN q) (W1.alloc (.cells #[.int .i64 q.f0, .int .i64 q.f1, .int .i64 q.f2, .int .i64 q.f3, .int .i64 q.f4, .int .i64 1] 3)) (C_of_blk (xs := rN q) (ys := []) (by have h := blk_new W1 (.cells #[.int .i64 q.f0, .int .i64 q.f1, .int .i64 q.f2, .int .i64 q.f3, .int .i64 q.f4, .int .i64 1] 3); rw [show rN q = [q.f0, q.f1, q.f2, q.f3, q.f4, 1] from by simp [rN, hg]]; exact h) (by simp [rN])) (by simp [rN]) (by simp [rN]))
        have HB2 : Aside0 (Below wr.heap.size wr (W1.alloc (.cells #[.int .i64 q.f0, .int .i64 q.f1, .int .i64 q.f2, .int .i64 q.f3, .int .i64 q.f4, .int .i64 1] 3))) := ⟨HB1.out.alloc HB1.out.size _⟩
        have HBL := Aside0.mk (Kd.R_lt HR.out)
        clear hg x0 x1 x2 x3 x4 x5 hN HB1
        go_wp2_with fail
        refine HCR.out.mono ?_
        rintro e w3 ⟨v1, v2, rfl, hM, hB⟩
        have HB3 := Aside0.mk (HB2.out.trans (hB.mono HB2.out.size))
        have HM := Aside0.mk hM
        have HZ2 := Aside0.mk HB2.out.size
        have HBW := Aside0.mk HB.out.size
        have HR3 := Aside0.mk (Kd.R_below HR.out HB3.out)
        have HB4 := Aside0.mk (HB.out.trans (HB3.out.mono HB.out.size))
        have HLen : Aside0 (((os.take i).map fun o => rowV (rN o)).length = i) := ⟨by simp; omega⟩
        have HLI : Aside0 (((os.take (i + 1)).map fun o => rowV (rN o)).length = i + 1) := ⟨by simp; omega⟩
        clear hM hB HCR q0 q1 q2 q3 q4 q5 HB HR
        generalize (os.take i).map (fun o => rowV (rN o)) = xs at HR3 HT HLen
        go_wp2_with ((with_reducible refine gate_builtin (b := .append) (xs := #[.tmp 15, .tmp 29]) rfl ?_); at_builtin; refine Kd.R_append k33 (w0 := w) w.heap.size rfl (.tmp 15) (.tmp 29) 31 33 (.agg #[(.int .u64 0), (.slice none 0 0), (.slice none 0 0)]) 56 rfl Try.underlying31 info33 rfl (by decide) (by decide) (.slice A5 i c5) xs (rowV (rN q)) [.int .u64 0, v1, v2] (fun k => w.heap.size ≤ k) (fun k => wr.heap.size ≤ k) rfl rfl ?aP ?aK ?aF ?aO ?aB ?aS ?aL ?_; (case aP => exact k33.M_mono (fun k hk => Nat.le_trans HZ2.out hk) (k33.M_lower (Nat.le_trans HBW.out HZ2.out) HM.out)); (case aK => exact fun k hk => ⟨Nat.le_trans HBW.out hk, fun e => by have h1 := HBL.out k e.symm; have h2 : wr.heap.size ≤ k := hk; omega⟩); (case aF => exact fun k hk => Nat.le_trans (Nat.le_trans HBW.out HB3.out.size) hk); (case aO => exact HR3.out); (case aB => exact HB4.out); (case aS => exact HB4.out.size); (case aL => rw [HLen.out]; omega); intro v5 w5 ho hb5 hg hat; rw [← HT.out] at ho; obtain ⟨A6, c6, ev6⟩ := Kd.R_slice ho; rw [HLI.out] at ev6; subst ev6; have HO5 := Aside0.mk ho; have HB5 := Aside0.mk hb5; clear ho hb5 hg hat)
        go_wp2_with fail
        go_roundg (gk - 1)
        case measure => omega
        case rel => exact ⟨i + 1, A6, c6, by go_num, rfl, by omega, HO5, HB5⟩
      | false =>
        have HHG := Aside0.mk hg
        rw [hg] at q5
        have HCR := Aside0.mk (row_calls (some ⟨W1.heap.size, 0, none⟩) 6 (rN q) (W1.alloc (.cells #[.int .i64 q.f0, .int .i64 q.f1, .int .i64 q.f2, .int .i64 q.f3, .int .i64 q.f4, .int .i64 0] 3)) (C_of_blk (xs := rN q) (ys := []) (by have h := blk_new W1 (.cells #[.int .i64 q.f0, .int .i64 q.f1, .int .i64 q.f2, .int .i64 q.f3, .int .i64 q.f4, .int .i64 0] 3); rw [show rN q = [q.f0, q.f1, q.f2, q.f3, q.f4, 0] from by simp [rN, hg]]; exact h) (by simp [rN])) (by simp [rN]) (by simp [rN]))
        have HB2 : Aside0 (Below wr.heap.size wr (W1.alloc (.cells #[.int .i64 q.f0, .int .i64 q.f1, .int .i64 q.f2, .int .i64 q.f3, .int .i64 q.f4, .int .i64 0] 3))) := ⟨HB1.out.alloc HB1.out.size _⟩
        have HBL := Aside0.mk (Kd.R_lt HR.out)
        clear hg x0 x1 x2 x3 x4 x5 hN HB1
        go_wp2_with fail
        refine HCR.out.mono ?_
        rintro e w3 ⟨v1, v2, rfl, hM, hB⟩
        have HB3 := Aside0.mk (HB2.out.trans (hB.mono HB2.out.size))
        have HM := Aside0.mk hM
        have HZ2 := Aside0.mk HB2.out.size
        have HBW := Aside0.mk HB.out.size
        have HR3 := Aside0.mk (Kd.R_below HR.out HB3.out)
        have HB4 := Aside0.mk (HB.out.trans (HB3.out.mono HB.out.size))
        have HLen : Aside0 (((os.take i).map fun o => rowV (rN o)).length = i) := ⟨by simp; omega⟩
        have HLI : Aside0 (((os.take (i + 1)).map fun o => rowV (rN o)).length = i + 1) := ⟨by simp; omega⟩
        clear hM hB HCR q0 q1 q2 q3 q4 q5 HB HR
        generalize (os.take i).map (fun o => rowV (rN o)) = xs at HR3 HT HLen
        go_wp2_with ((with_reducible refine gate_builtin (b := .append) (xs := #[.tmp 15, .tmp 29]) rfl ?_); at_builtin; refine Kd.R_append k33 (w0 := w) w.heap.size rfl (.tmp 15) (.tmp 29) 31 33 (.agg #[(.int .u64 0), (.slice none 0 0), (.slice none 0 0)]) 56 rfl Try.underlying31 info33 rfl (by decide) (by decide) (.slice A5 i c5) xs (rowV (rN q)) [.int .u64 0, v1, v2] (fun k => w.heap.size ≤ k) (fun k => wr.heap.size ≤ k) rfl rfl ?aP ?aK ?aF ?aO ?aB ?aS ?aL ?_; (case aP => exact k33.M_mono (fun k hk => Nat.le_trans HZ2.out hk) (k33.M_lower (Nat.le_trans HBW.out HZ2.out) HM.out)); (case aK => exact fun k hk => ⟨Nat.le_trans HBW.out hk, fun e => by have h1 := HBL.out k e.symm; have h2 : wr.heap.size ≤ k := hk; omega⟩); (case aF => exact fun k hk => Nat.le_trans (Nat.le_trans HBW.out HB3.out.size) hk); (case aO => exact HR3.out); (case aB => exact HB4.out); (case aS => exact HB4.out.size); (case aL => rw [HLen.out]; omega); intro v5 w5 ho hb5 hg hat; rw [← HT.out] at ho; obtain ⟨A6, c6, ev6⟩ := Kd.R_slice ho; rw [HLI.out] at ev6; subst ev6; have HO5 := Aside0.mk ho; have HB5 := Aside0.mk hb5; clear ho hb5 hg hat)
        go_wp2_with fail
        go_roundg (gk - 1)
        case measure => omega
        case rel => exact ⟨i + 1, A6, c6, by go_num, rfl, by omega, HO5, HB5⟩
    · have hie : i = os.length := by omega
      have HT : Aside0 ((os.take i).map (fun o => rowV (rN o)) = (os.map rN).map rowV) := ⟨by rw [List.take_of_length_le (by omega), List.map_map]; rfl⟩
      rw [HT.out] at HR
      obtain ⟨h1, h2, h3⟩ := Kd.R_reads' HR.out
      have hml : (os.map rN).length = i := by rw [List.length_map]; exact hie.symm
      have hC5 : k33.C wr A5 (os.map rN).length ((os.map rN).map rowV) := by rw [hml]; rw [← h1] at h3; exact h3
      have HCB := bytes_calls 2 sh6 6 p_6 (os.map rN) (fun ns hns => by obtain ⟨o, _, rfl⟩ := List.mem_map.1 hns; rfl) (by omega) (by omega) A5 c5 wr hC5 (by omega)
      rw [hml, HFB.out] at HCB
      have HCB := Aside0.mk HCB
      have HBB := HB
      clear h1 h2 h3 hml hC5 HT HR HC HFB hie
      go_wp2_with fail
      refine HCB.out.mono ?_
      rintro e w2 ⟨A', c', rfl, hc', hC', hB⟩
      have HQ := Aside0.mk (And.intro hc' (And.intro hC' (HBB.out.trans (hB.mono HBB.out.size))))
      clear hc' hC' hB HCB
      go_wp2_with fail
      go_ret
      exact ⟨A', c', rfl, HQ.out.1, HQ.out.2.1, HQ.out.2.2⟩
end Go.Proofs.Ytcdlccnpbhjgkaa.Oo
