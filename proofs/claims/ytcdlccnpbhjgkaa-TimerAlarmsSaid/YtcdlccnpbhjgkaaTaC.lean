/- TimerAlarms, walked. -/
import Derived.Test.YtcdlccnpbhjgkaaTaB
import Derived.Test.YtcdlccnpbhjgkaaTdB
import Derived.Deep.DeepCutAuto
import Derived.StillTailTactics
namespace Go.Proofs.Ytcdlccnpbhjgkaa.Ti
open Go.RowKit Go.Maps Go.Proofs.YtcdlccnpbhjgkaaW.PrintWords Go.Proofs.YtcdlccnpbhjgkaaW.PrintLast Go.Proofs.YtcdlccnpbhjgkaaW.PrintMore
open Go.Proofs.Ytcdlccnpbhjgkaa.PTimerAlarms Go.Proofs.Ytcdlccnpbhjgkaa.Mp
set_option linter.unusedVariables false
set_option linter.unusedSimpArgs false

/-! #### struct type 65 -/
structure S65 where
  f0 : Int
  f1 : Int
  f2 : (List Int)
def z65 : S65 := ⟨(0 : Int), (0 : Int), ([] : List Int)⟩
def k65 : Kd S65 := Kd.iso (Kd.pair (Kd.int .i64) (Kd.pair (Kd.int .i64) (Kd.slice 3 (Kd.int .i64)))) (fun x : S65 => (x.f0, x.f1, x.f2))
theorem k65_open {w : World} {x : S65} {cs : List Value} (h : k65.K w x cs) : ∃ A2 c2, cs = [.int .i64 x.f0, .int .i64 x.f1, .slice A2 x.f2.length c2] ∧ x.f2.length ≤ c2 ∧ (Kd.int .i64).C w A2 x.f2.length x.f2 := by
  obtain ⟨_, _, rfl, rfl, ⟨_, _, rfl, rfl, ⟨A2, c2, rfl, l2, g2⟩⟩⟩ := h
  exact ⟨A2, c2, rfl, l2, g2⟩
theorem k65_openM {w : World} {base : Nat} {ok : Nat → Prop} {x : S65} {cs : List Value} (h : k65.M w base ok x cs) : ∃ v2, cs = [.int .i64 x.f0, .int .i64 x.f1, v2] ∧ (Kd.int .i64).R 3 w base ok v2 x.f2 := by
  obtain ⟨_, _, rfl, rfl, ⟨_, _, rfl, rfl, ⟨v2, rfl, g2⟩⟩⟩ := h
  exact ⟨v2, rfl, g2⟩
theorem k65_mk (w : World) (x : S65) {A2 : Option Addr} {c2 : Nat} (l2 : x.f2.length ≤ c2) (g2 : (Kd.int .i64).C w A2 x.f2.length x.f2) : k65.K w x [.int .i64 x.f0, .int .i64 x.f1, .slice A2 x.f2.length c2] := ⟨[.int .i64 x.f0], [.int .i64 x.f1, .slice A2 x.f2.length c2], rfl, rfl, ⟨[.int .i64 x.f1], [.slice A2 x.f2.length c2], rfl, rfl, ⟨A2, c2, rfl, l2, g2⟩⟩⟩
theorem k65_mkM (w : World) (base : Nat) (ok : Nat → Prop) (x : S65) {v2 : Value} (g2 : (Kd.int .i64).R 3 w base ok v2 x.f2) : k65.M w base ok x [.int .i64 x.f0, .int .i64 x.f1, v2] := ⟨[.int .i64 x.f0], [.int .i64 x.f1, v2], rfl, rfl, ⟨[.int .i64 x.f1], [v2], rfl, rfl, ⟨v2, rfl, g2⟩⟩⟩
def rd_T65 (xs : List S65) (i : Int) : S65 := xs.getD i.toNat z65
theorem at_T65 {w : World} {A : Option Addr} {n : Nat} {xs : List S65} (h : Kd.C k65 w A n xs) (i : Int) (h0 : 0 ≤ i) (h1 : i < n) : ∃ ad A2 c2, A = some ad ∧ w.cell? (ad.add (i.toNat * 3)) = some (.int .i64 (rd_T65 xs i).f0) ∧ w.cell? ⟨(ad.add (i.toNat * 3)).block, (ad.add (i.toNat * 3)).off + 1, none⟩ = some (.int .i64 (rd_T65 xs i).f1) ∧ w.cell? ⟨(ad.add (i.toNat * 3)).block, (ad.add (i.toNat * 3)).off + 2, none⟩ = some (.slice A2 (rd_T65 xs i).f2.length c2) ∧ (rd_T65 xs i).f2.length ≤ c2 ∧ (Kd.int .i64).C w A2 (rd_T65 xs i).f2.length (rd_T65 xs i).f2 := by
  obtain ⟨ad, c, e, _, hK, hc0⟩ := Kd.C_get h z65 i h0 h1
  have hc : ∀ j u, c[j]? = some u → w.cell? (ad.add (i.toNat * 3 + j)) = some u := hc0
  obtain ⟨A2, c2, rfl, l2, g2⟩ := k65_open hK
  exact ⟨ad, A2, c2, e, hc 0 _ rfl, by rw [← add_field _ _ 1 (by omega)]; exact hc 1 _ rfl, by rw [← add_field _ _ 2 (by omega)]; exact hc 2 _ rfl, l2, g2⟩

theorem C_moveK {α : Type} {d : Kd α} {A : Option Addr} {n : Nat} {xs : List α} {w w1 : World} (h : d.C w A n xs) (hm : ∀ b, AtB A b → b < w.heap.size → w1.heap[b]? = w.heap[b]?) (hK : ∀ x cs, d.K w x cs → d.K w1 x cs) : d.C w1 A n xs := by
  refine ⟨h.1, h.2.1, fun hn => ?_⟩
  obtain ⟨ad, rfl, hc⟩ := h.2.2 hn
  refine ⟨ad, rfl, fun j p hp => ?_⟩
  obtain ⟨c, hl, hk, hcell⟩ := hc j p hp
  refine ⟨c, hl, hK _ _ hk, fun i u hu => ?_⟩
  have h1 := hcell i u hu
  have hlt := cell_lt h1
  rw [add_block] at hlt
  rw [← h1]
  exact World.cell?_of_block (w := w) (by rw [add_block]; exact hm _ (AtB.some ad) hlt)
/-- The document's list, beside the alarms at ab, bo. -/
structure LIs (w : World) (ab : Nat) (bo : Option Nat) (A : Option Addr) (c : Nat) (l : Q) : Prop where
  row : Kd.C k70 w A l.length (l.map cv)
  cap : l.length ≤ c
  far : ∀ k, AtB A k → k ≠ ab ∧ bo ≠ some k ∧ k < w.heap.size
  non : A = none → c = 0
theorem LIs.turn {w w' : World} {ab : Nat} {bo bo' : Option Nat} {A : Option Addr} {c : Nat} {l : Q} (h : LIs w ab bo A c l) (hT : TurnB ab bo bo' w w') : LIs w' ab bo' A c l := by
  refine ⟨C_moveK h.row (fun b hb hlt => hT.1.block b hlt (fun e => ?_)) (fun x cs hk => hk), h.cap, fun k hk => ⟨(h.far k hk).1, fun e => ?_, Nat.lt_of_lt_of_le (h.far k hk).2.2 hT.1.size⟩, h.non⟩
  · rcases e with e | e
    · exact (h.far b hb).1 e
    · exact (h.far b hb).2.1 e
  · rcases hT.2 with e' | ⟨b, e', hb⟩
    · exact (h.far k hk).2.1 (e'.symm.trans e)
    · rw [e'] at e
      injection e with e
      have := (h.far k hk).2.2
      omega
theorem LIs.below {w w1 : World} {ab : Nat} {bo : Option Nat} {A : Option Addr} {c : Nat} {l : Q} (h : LIs w ab bo A c l) (hb : Below w.heap.size w w1) : LIs w1 ab bo A c l := h.turn (TurnB.below hb)
theorem LIs.drop {w : World} {ab : Nat} {bo : Option Nat} {A : Option Addr} {c : Nat} {l : Q} (h : LIs w ab bo A c l) {m : Nat} (hm : m ≤ l.length) : LIs w ab bo (if c = m then A else A.map (·.add (m * 2))) (c - m) (l.drop m) := by
  have hC : Kd.C k70 w A (l.map cv).length (l.map cv) := by rw [List.length_map]; exact h.row
  have hc := h.cap
  have := Kd.C_drop (m := m) hC (by rw [List.length_map]; exact hm) (by rw [List.length_map]; exact hc)
  refine ⟨?_, by rw [List.length_drop]; omega, fun k hk => h.far k ?_, fun e => ?_⟩
  · rw [← List.map_drop, List.length_map] at this
    exact this
  · split at hk
    · exact hk
    · cases A with
      | none => exact absurd hk AtB.none
      | some a =>
        have : (a.add (m * 2)).block = k := by simpa [AtB] using hk
        rw [add_block] at this
        exact congrArg some this
  · have : A = none := by
      split at e
      · exact e
      · simpa using e
    have := h.non this
    omega
theorem LIs.nil (w : World) (ab : Nat) (bo : Option Nat) : LIs w ab bo none 0 [] := ⟨Kd.C_nil _ _, by simp, fun k hk => absurd hk AtB.none, fun _ => rfl⟩
theorem LIs.ofR {w w1 : World} {ab : Nat} {bo : Option Nat} {v : Value} {l : Q} (hR : Kd.R k70 70 w1 w.heap.size (fun _ => True) v (l.map cv)) (hab : ab < w.heap.size) (hbo : ∀ k, bo = some k → k < w.heap.size) : ∃ A c, v = .slice A l.length c ∧ LIs w1 ab bo A c l := by
  have hlt := Kd.R_lt hR
  have hbs := Kd.R_base hR
  have hnil : ∀ A n c, v = .slice A n c → A = none → c = 0 := by
    rintro A n c rfl rfl
    obtain ⟨_, ho⟩ := Kd.R_own hR
    rcases ho.2 with ⟨e, _⟩ | ⟨g, cap, cur, e, _⟩
    · injection e
    · injection e with e; cases e
  obtain ⟨A, c, rfl, hcap, hC⟩ := Kd.R_reads hR
  rw [List.length_map] at hcap hC ⊢
  refine ⟨A, c, rfl, hC, hcap, fun k hk => ?_, hnil A _ c rfl⟩
  have hob : (Value.slice A l.length c).ownBlock = some k := by
    cases A with
    | none => exact absurd hk AtB.none
    | some a => exact hk
  have h1 := hlt k (by simpa using hob)
  have h2 := hbs k (by simpa using hob)
  exact ⟨by omega, fun e => by have := hbo k e; omega, h1⟩

set_option maxRecDepth 100000 in
theorem set_calls0 (ab : Nat) (t : Int) (A : Option Addr) (c : Nat) (w : World) : Calls Try.prog 29 #[.pointer (some ⟨ab, 0, none⟩), .int .i64 t, .slice A 0 c] w fun e w' => e = .returned (.tuple #[]) ∧ w' = w := by
  go_enter Try.func29, Try.ntmps29
  go_wp2_with fail
  go_loopg [7, 8, 11] 0 (fun kq v7 v8 v11 wr => v11 = .int .i64 0 ∧ Aside0 (wr = w))
  case atStart => exact ⟨rfl, ⟨rfl⟩⟩
  case round =>
    obtain ⟨rfl, HW⟩ := hrel
    go_wp2_with fail
    go_end0
    exact ⟨rfl, HW.out⟩
set_option maxRecDepth 100000 in
theorem clear_calls0 (ab : Nat) (A : Option Addr) (c : Nat) (w : World) : Calls Try.prog 38 #[.pointer (some ⟨ab, 0, none⟩), .slice A 0 c] w fun e w' => e = .returned (.tuple #[]) ∧ w' = w := by
  go_enter Try.func38, Try.ntmps38
  go_wp2_with fail
  go_loopg [5, 6, 9] 0 (fun kq v7 v8 v11 wr => v11 = .int .i64 0 ∧ Aside0 (wr = w))
  case atStart => exact ⟨rfl, ⟨rfl⟩⟩
  case round =>
    obtain ⟨rfl, HW⟩ := hrel
    go_wp2_with fail
    go_end0
    exact ⟨rfl, HW.out⟩
theorem set_in (w0 w : World) (ab : Nat) (bo : Option Nat) (l : Q) (t : Int) (A : Option Addr) (c : Nat) (ks : List Int) (h : AlB w0 w ab bo l) (hC : (Kd.int .i64).C w A ks.length ks) (hA : 0 < ks.length → ∀ k, AtB A k → k < w0.heap.size) (hmx : l.length + ks.length ≤ 100000) :
    Calls Try.prog 29 #[.pointer (some ⟨ab, 0, none⟩), .int .i64 t, .slice A ks.length c] w fun e w' => e = .returned (.tuple #[]) ∧ ∃ bo', AlB w0 w' ab bo' (setF t ks l) ∧ TurnB ab bo bo' w w' := by
  by_cases hn : ks.length = 0
  · obtain rfl := List.length_eq_zero_iff.1 hn
    refine (set_calls0 ab t A c w).mono ?_
    rintro e w' ⟨rfl, rfl⟩
    exact ⟨rfl, bo, h, TurnB.below (Below.refl _ _)⟩
  · refine (set_calls w0.heap.size ab bo l t A c ks w h.is h.below.size hC (fun k hk => ?_) hmx).mono ?_
    · have h1 := hA (by omega) k hk
      have := h.ge
      have := h.below.size
      exact ⟨by omega, fun e => by have := (h.bo _ e).1; omega, by omega⟩
    · rintro e w' ⟨rfl, bo', hA, hT⟩
      refine ⟨rfl, bo', ⟨hA, hA.own_lt, h.ge, Nat.lt_of_lt_of_le h.lt hT.1.size, h.below.trans (hT.1.to_below (fun k hk => ?_) h.below.size)⟩, hT⟩
      rcases hk with rfl | hk
      · exact h.ge
      · exact (h.bo k hk).1
theorem clear_in (w0 w : World) (ab : Nat) (bo : Option Nat) (l : Q) (A : Option Addr) (c : Nat) (ks : List Int) (h : AlB w0 w ab bo l) (hC : (Kd.int .i64).C w A ks.length ks) (hA : 0 < ks.length → ∀ k, AtB A k → k < w0.heap.size) (hmx : l.length ≤ 100000) (hkx : ks.length ≤ 100000) :
    Calls Try.prog 38 #[.pointer (some ⟨ab, 0, none⟩), .slice A ks.length c] w fun e w' => e = .returned (.tuple #[]) ∧ ∃ bo', AlB w0 w' ab bo' (clrF ks l) ∧ TurnB ab bo bo' w w' := by
  by_cases hn : ks.length = 0
  · obtain rfl := List.length_eq_zero_iff.1 hn
    refine (clear_calls0 ab A c w).mono ?_
    rintro e w' ⟨rfl, rfl⟩
    exact ⟨rfl, bo, h, TurnB.below (Below.refl _ _)⟩
  · refine (clear_calls w0.heap.size ab bo l A c ks w h.is h.below.size hC (fun k hk => ?_) hmx hkx).mono ?_
    · have h1 := hA (by omega) k hk
      have := h.ge
      have := h.below.size
      exact ⟨by omega, fun e => by have := (h.bo _ e).1; omega, by omega⟩
    · rintro e w' ⟨rfl, bo', hA, hT⟩
      refine ⟨rfl, bo', ⟨hA, hA.own_lt, h.ge, Nat.lt_of_lt_of_le h.lt hT.1.size, h.below.trans (hT.1.to_below (fun k hk => ?_) h.below.size)⟩, hT⟩
      rcases hk with rfl | hk
      · exact h.ge
      · exact (h.bo k hk).1
theorem setF_len (t : Int) : ∀ (ks : List Int) (l : Q), (setF t ks l).length ≤ l.length + ks.length
  | [], l => Nat.le_refl _
  | k :: ks, l => by
    have h1 := setF_len t ks (set1 t k l)
    have h2 := set1_length t k l
    show (setF t ks (set1 t k l)).length ≤ _
    simp only [List.length_cons]
    omega
theorem clrF_len : ∀ (ks : List Int) (l : Q), (clrF ks l).length ≤ l.length
  | [], l => Nat.le_refl _
  | k :: ks, l => Nat.le_trans (clrF_len ks (without k l)) (without_len k l)
theorem AlB.nd {w0 w : World} {ab : Nat} {bo : Option Nat} {l : Q} (h : AlB w0 w ab bo l) : (l.map (·.f1)).Nodup := by
  obtain ⟨v, xs, _, _, hg⟩ := h.is
  exact hg.nd
theorem due_at {t : Int} : ∀ {l : Q} {n : Nat}, n < (due t l).length → ∃ h : n < l.length, l[n].f0 ≤ t ∧ rd (due t l) n = l[n].f1
  | [], n, h => by simp [due] at h
  | a :: l, n, h => by
    by_cases ha : a.f0 ≤ t
    · have e : due t (a :: l) = a.f1 :: due t l := by simp [due, List.takeWhile_cons, ha]
      rw [e] at h ⊢
      cases n with
      | zero => exact ⟨by simp, ha, rfl⟩
      | succ n =>
        obtain ⟨h1, h2, h3⟩ := due_at (l := l) (n := n) (by simpa using h)
        exact ⟨by simpa using h1, h2, by simpa [rd] using h3⟩
    · have e : due t (a :: l) = [] := by simp [due, List.takeWhile_cons, ha]
      rw [e] at h
      simp at h
theorem due_end {t : Int} : ∀ {l : Q} (h : (due t l).length < l.length), t < l[(due t l).length].f0
  | [], h => by simp [due] at h
  | a :: l, h => by
    by_cases ha : a.f0 ≤ t
    · have e : due t (a :: l) = a.f1 :: due t l := by simp [due, List.takeWhile_cons, ha]
      have h' : (due t l).length < l.length := by rw [e] at h; simpa using h
      have := due_end (t := t) h'
      simp only [e, List.length_cons, List.getElem_cons_succ]
      exact this
    · have e : due t (a :: l) = [] := by simp [due, List.takeWhile_cons, ha]
      simp only [e, List.length_nil, List.getElem_cons_zero]
      omega
theorem due_drop {t : Int} : ∀ {l : Q}, l.drop (due t l).length = rest t l
  | [] => rfl
  | a :: l => by
    by_cases ha : a.f0 ≤ t
    · have e : due t (a :: l) = a.f1 :: due t l := by simp [due, List.takeWhile_cons, ha]
      have e2 : rest t (a :: l) = rest t l := by simp [rest, List.dropWhile_cons, ha]
      rw [e, e2]
      simpa using due_drop (t := t) (l := l)
    · have e : due t (a :: l) = [] := by simp [due, List.takeWhile_cons, ha]
      have e2 : rest t (a :: l) = a :: l := by simp [rest, List.dropWhile_cons, ha]
      rw [e, e2]
      rfl
theorem cellB {w w1 : World} {p : Addr} {v : Value} (hb : Below w.heap.size w w1) (h : w.cell? p = some v) : w1.cell? p = some v := by
  rw [← h]
  exact World.cell?_of_block (w := w) (hb.block _ (cell_lt h))
theorem atO_any {k : Int} : ∀ {l : Q}, (atO k l).isSome = l.any (fun a => a.f1 == k)
  | [] => rfl
  | a :: l => by
    have ih := atO_any (k := k) (l := l)
    unfold atO at *
    by_cases h : a.f1 = k
    · simp [h]
    · have h' : (a.f1 == k) = false := beq_eq_false_iff_ne.2 h
      rw [List.find?_cons_of_neg (by simpa using h), ih, List.any_cons, h', Bool.false_or]
theorem any_take {k : Int} {l : Q} {m : Nat} (h : m < l.length) : (l.take (m + 1)).any (fun a => a.f1 == k) = ((l.take m).any (fun a => a.f1 == k) || (l[m].f1 == k)) := by
  rw [List.take_succ_eq_append_getElem h, List.any_append]
  simp
/-- What the round reads of its act. -/
structure ActIs (w0 w : World) (gx : Nat) (kd t : Int) (A : Option Addr) (c : Nat) (ks : List Int) : Prop where
  blk : w.heap[gx]? = some (.cells #[.int .i64 kd, .int .i64 t, .slice A ks.length c] 65 (0, 0))
  row : (Kd.int .i64).C w0 A ks.length ks
  low : 0 < ks.length → ∀ k, AtB A k → k < w0.heap.size
theorem ActIs.turn {w0 w w' : World} {gx ab : Nat} {bo bo' : Option Nat} {kd t : Int} {A : Option Addr} {c : Nat} {ks : List Int} (h : ActIs w0 w gx kd t A c ks) (hT : TurnB ab bo bo' w w') (h1 : gx ≠ ab) (h2 : bo ≠ some gx) : ActIs w0 w' gx kd t A c ks :=
  ⟨(hT.1.block gx (blk_lt h.blk) (fun e => by rcases e with e | e; exact h1 e; exact h2 e)).trans h.blk, h.row, h.low⟩
theorem ActIs.below {w0 w w' : World} {gx : Nat} {kd t : Int} {A : Option Addr} {c : Nat} {ks : List Int} (h : ActIs w0 w gx kd t A c ks) (hb : Below w.heap.size w w') : ActIs w0 w' gx kd t A c ks := ⟨blk_below h.blk hb, h.row, h.low⟩
theorem ActIs.cells {w0 w : World} {gx : Nat} {kd t : Int} {A : Option Addr} {c : Nat} {ks : List Int} (h : ActIs w0 w gx kd t A c ks) : w.cell? ⟨gx, 0, none⟩ = some (.int .i64 kd) ∧ w.cell? ⟨gx, 1, none⟩ = some (.int .i64 t) ∧ w.cell? ⟨gx, 2, none⟩ = some (.slice A ks.length c) :=
  ⟨(blk_cell h.blk 0).trans rfl, (blk_cell h.blk 1).trans rfl, (blk_cell h.blk 2).trans rfl⟩

set_option maxHeartbeats 2000000 in
set_option maxRecDepth 100000 in
theorem alarms_law_calls (A1 : Option Addr) (c1 : Nat) (acts : List S65) (w : World) (hr1 : Kd.C k65 w A1 acts.length acts) (hc1 : acts.length ≤ c1) :
    Calls Try.prog 9 #[.slice A1 acts.length c1] w fun e w' => e = .returned (.bool true) ∧ Below w.heap.size w w' := by
  have HR1 := Aside0.mk hr1
  clear hr1 hc1
  by_cases h1 : (60 : Int) < acts.length
  · have b1 : decide ((60 : Int) < acts.length) = true := decide_eq_true h1
    clear h1
    go_enter Try.func9, Try.ntmps9
    go_wp2_with fail
    refine (awake_calls _).mono ?_
    rintro e w1 ⟨rfl, hb⟩
    have HB1 := Aside0.mk hb
    clear hb
    go_wp2_with fail
    refine (awake_calls _).mono ?_
    rintro e w2 ⟨rfl, hb⟩
    have HB2 := Aside0.mk (HB1.out.trans (hb.mono HB1.out.size))
    clear hb
    go_wp2_with fail
    go_ret
    exact ⟨rfl, HB2.out⟩
  · have hl1 : acts.length ≤ 60 := by omega
    clear h1
    go_enter Try.func9, Try.ntmps9
    go_wp2_with fail
    refine (awake_calls _).mono ?_
    rintro e w1 ⟨rfl, hb⟩
    have HB1 := Aside0.mk hb
    clear hb
    have HA0 : Aside0 (AlB w (w1.alloc (.cells #[.slice none 0 0] 50)) w1.heap.size none []) := ⟨⟨AlIs.new w1 w.heap.size HB1.out.size, fun k hk => (by cases hk), HB1.out.size, by simp, HB1.out.alloc HB1.out.size _⟩⟩
    go_wp2_with fail
    generalize w1.heap.size = ab at HA0 ⊢
    generalize w1.alloc (.cells #[.slice none 0 0] 50) = w2 at HA0 ⊢
    go_loopg [4, 5, 6, 7, 8, 9, 10, 11, 12, 13, 14, 15, 16, 17, 18, 19, 20] acts.length (fun kq v4 v5 v6 v7 v8 v9 v10 v11 v12 v13 v14 v15 v16 v17 v18 v19 v20 wr => ∃ (i : Nat) (bo : Option Nat) (A : Option Addr) (c : Nat) (l : Q), v5 = .int .i64 i ∧ v4 = .slice A l.length c ∧ i + kq = acts.length ∧ l.length ≤ 30 * i ∧ Aside0 (AlB w wr ab bo l) ∧ Aside0 (LIs wr ab bo A c l))
    case atStart => exact ⟨0, none, none, 0, [], rfl, rfl, by omega, by simp, HA0, ⟨LIs.nil _ _ _⟩⟩
    case round =>
      clear HA0 HB1
      obtain ⟨i, bo, A, c, l, rfl, rfl, hi, hl, HA, HL⟩ := hrel
      by_cases hlt : i < acts.length
      · have hlt' : (i : Int) < (acts.length : Int) := by omega
        obtain ⟨ad, A2, c2, rfl, y0, y1, y2, hc2, hC2⟩ := at_T65 HR1.out i (by omega) hlt'
        simp only [Int.toNat_natCast] at y0 y1 y2
        have x0 := cellB HA.out.below y0
        have x1 := cellB HA.out.below y1
        have x2 := cellB HA.out.below y2
        clear y0 y1 y2
        generalize rd_T65 acts i = x at x0 x1 x2 hc2 hC2
        obtain ⟨kd, t, ks⟩ := x
        simp only at x0 x1 x2 hc2 hC2
        have HBX : Aside0 (Below wr.heap.size wr (wr.alloc (.cells #[.int .i64 kd, .int .i64 t, .slice A2 ks.length c2] 65))) := ⟨(Below.refl _ _).alloc (Nat.le_refl _) _⟩
        have HX : Aside0 (ActIs w (wr.alloc (.cells #[.int .i64 kd, .int .i64 t, .slice A2 ks.length c2] 65)) wr.heap.size kd t A2 c2 ks) := ⟨⟨blk_new wr _, hC2, fun hn k hk => C_at_lt hC2 hn hk⟩⟩
        have HA2 := Aside0.mk (HA.out.next HBX.out)
        have HL2 := Aside0.mk (HL.out.below HBX.out)
        have HG : Aside0 (wr.heap.size ≠ ab ∧ bo ≠ some wr.heap.size) := ⟨by have := HA.out.lt; omega, fun e => by have := (HA.out.bo _ e).2; omega⟩
        clear hC2 HBX
        by_cases hbig : (30 : Int) < ks.length
        · have hb : decide ((30 : Int) < ks.length) = true := decide_eq_true hbig
          clear hbig
          go_wp2_with fail
          go_ret
          exact ⟨rfl, HA2.out.below⟩
        · have hb : decide ((30 : Int) < ks.length) = false := decide_eq_false hbig
          have hk30 : ks.length ≤ 30 := by omega
          clear hbig
          go_upto_block 2 with fail
          clear x0 x1 x2 HL HA
          generalize wr.alloc (.cells #[.int .i64 kd, .int .i64 t, .slice A2 ks.length c2] 65) = wx at HX HA2 HL2 ⊢
          generalize wr.heap.size = gx at HX HG ⊢
          go_cut [4] (fun v4 wc => ∃ (bo' : Option Nat) (A' : Option Addr) (c' : Nat) (l' : Q), v4 = .slice A' l'.length c' ∧ l'.length ≤ 30 * (i + 1) ∧ Aside0 (AlB w wc ab bo' l') ∧ Aside0 (LIs wc ab bo' A' c' l') ∧ Aside0 (ActIs w wc gx kd t A2 c2 ks))
          case first => as_aux_lemma =>
            obtain ⟨g0, g1, g2⟩ := HX.out.cells
            by_cases hk0 : kd = 0
            · subst hk0
              go_wp2_with fail
              refine (set_in w wx ab bo l t A2 c2 ks HA2.out (Kd.C_below HX.out.row HA2.out.below) HX.out.low (by omega)).mono ?_
              rintro e w3 ⟨rfl, bo', hA3, hT⟩
              have HA3 := Aside0.mk hA3
              have HL3 := Aside0.mk (HL2.out.turn hT)
              have HX3 := Aside0.mk (HX.out.turn hT HG.out.1 HG.out.2)
              clear hA3 hT g0 g1 g2 HX HL2 HA2
              have g2 := HX3.out.cells.2.2
              go_wp2_with fail
              clear g2
              go_loopg [4, 7] ks.length (fun kq v4 v7 wr => ∃ (j : Nat) (A' : Option Addr) (c' : Nat) (l1 : Q), v7 = .int .i64 j ∧ v4 = .slice A' l1.length c' ∧ j + kq = ks.length ∧ l1.length ≤ l.length + j ∧ Aside0 (setF t (ks.drop j) l1 = setF t ks l) ∧ Aside0 (AlB w wr ab bo' (setF t ks l)) ∧ Aside0 (LIs wr ab bo' A' c' l1) ∧ Aside0 (ActIs w wr gx 0 t A2 c2 ks))
              case atStart => exact ⟨0, A, c, l, rfl, rfl, by omega, by omega, ⟨rfl⟩, HA3, HL3, HX3⟩
              case round =>
                clear HA3 HL3 HX3
                obtain ⟨j, A', c', l1, rfl, rfl, hj, hl1', HS, HA, HL, HX⟩ := hrel
                obtain ⟨g0, g1, g2⟩ := HX.out.cells
                by_cases hjl : j < ks.length
                · have hjl' : (j : Int) < (ks.length : Int) := by omega
                  have HS2 : Aside0 (setF t (ks.drop (j + 1)) (set1 t (rd ks j) l1) = setF t ks l) := ⟨by
                    rw [← HS.out, List.drop_eq_getElem_cons hjl]
                    have : rd ks (j : Int) = ks[j] := by simp [rd, hjl]
                    rw [this]; rfl⟩
                  have HSL := Aside0.mk (set1_length t (rd ks j) l1)
                  obtain ⟨adk, rfl, z0⟩ := Kd.at_int (Kd.C_below HX.out.row HA.out.below) j (by omega) hjl'
                  simp only [Int.toNat_natCast] at z0
                  have HC := Aside0.mk (echelonref10_Set.calls 5000 A' c' (l1.map cv) t (rd ks j) _ wr.drew (by rw [List.length_map]; exact Kd.C_drew HL.out.row) (by rw [List.length_map]; exact HL.out.cap) (set_ref l1 t (rd ks j) (by omega) 5000 (by omega)))
                  rw [List.length_map] at HC
                  generalize rd ks j = key at z0 HC HS2 HSL
                  go_wp2_with fail
                  go_still_tail 8, (by kernel_rfl)
                  go_wp2_with fail
                  refine HC.out.mono ?_
                  rintro e w4 ⟨v4, rfl, hR, hB⟩
                  have hb4 : Below wr.heap.size wr w4 := ((Below.refl _ _).drew).trans hB
                  obtain ⟨A4, c4, rfl, hL4⟩ := LIs.ofR (ab := ab) (bo := bo') hR (by have := HA.out.lt; simpa using this) (fun k hk => by have := (HA.out.bo k hk).2; simpa using this)
                  have HL4 := Aside0.mk hL4
                  have HA4 := Aside0.mk (HA.out.next hb4)
                  have HX4 := Aside0.mk (HX.out.below hb4)
                  clear hR hB hb4 hL4 HC g0 g1 g2 z0 HA HL HX
                  go_wp2_with fail
                  go_roundg (gk - 1)
                  case measure => omega
                  case rel => exact ⟨j + 1, A4, c4, _, by go_num, rfl, by omega, by have := HSL.out; omega, HS2, HA4, HL4, HX4⟩
                · have hs := HS.out
                  rw [List.drop_of_length_le (by omega)] at hs
                  have HS3 : Aside0 (l1 = setF t ks l) := ⟨hs⟩
                  clear hs
                  go_wp2_with fail
                  go_meet
                  case rel => exact ⟨bo', A', c', l1, rfl, by omega, by rw [HS3.out]; exact HA, HL, HX⟩
            · have hb0 : (kd == 0) = false := beq_eq_false_iff_ne.2 hk0
              by_cases hk1 : kd = 1
              · subst hk1
                go_wp2_with fail
                refine (clear_in w wx ab bo l A2 c2 ks HA2.out (Kd.C_below HX.out.row HA2.out.below) HX.out.low (by omega) (by omega)).mono ?_
                rintro e w3 ⟨rfl, bo', hA3, hT⟩
                have HA3 := Aside0.mk hA3
                have HL3 := Aside0.mk (HL2.out.turn hT)
                have HX3 := Aside0.mk (HX.out.turn hT HG.out.1 HG.out.2)
                clear hA3 hT g0 g1 g2 HX HL2 HA2
                have g2 := HX3.out.cells.2.2
                go_wp2_with fail
                clear g2
                go_loopg [4, 8] ks.length (fun kq v4 v8 wr => ∃ (j : Nat) (A' : Option Addr) (c' : Nat) (l1 : Q), v8 = .int .i64 j ∧ v4 = .slice A' l1.length c' ∧ j + kq = ks.length ∧ l1.length ≤ l.length ∧ Aside0 (clrF (ks.drop j) l1 = clrF ks l) ∧ Aside0 (AlB w wr ab bo' (clrF ks l)) ∧ Aside0 (LIs wr ab bo' A' c' l1) ∧ Aside0 (ActIs w wr gx 1 t A2 c2 ks))
                case atStart => exact ⟨0, A, c, l, rfl, rfl, by omega, by omega, ⟨rfl⟩, HA3, HL3, HX3⟩
                case round =>
                  clear HA3 HL3 HX3
                  obtain ⟨j, A', c', l1, rfl, rfl, hj, hl1', HS, HA, HL, HX⟩ := hrel
                  obtain ⟨g0, g1, g2⟩ := HX.out.cells
                  by_cases hjl : j < ks.length
                  · have hjl' : (j : Int) < (ks.length : Int) := by omega
                    have HS2 : Aside0 (clrF (ks.drop (j + 1)) (without (rd ks j) l1) = clrF ks l) := ⟨by
                      rw [← HS.out, List.drop_eq_getElem_cons hjl]
                      have : rd ks (j : Int) = ks[j] := by simp [rd, hjl]
                      rw [this]; rfl⟩
                    have HSL := Aside0.mk (without_len (rd ks j) l1)
                    obtain ⟨adk, rfl, z0⟩ := Kd.at_int (Kd.C_below HX.out.row HA.out.below) j (by omega) hjl'
                    simp only [Int.toNat_natCast] at z0
                    have HC := Aside0.mk (echelonref10_Clear.calls 5000 A' c' (l1.map cv) (rd ks j) _ wr (by rw [List.length_map]; exact HL.out.row) (by rw [List.length_map]; exact HL.out.cap) (clr_ref l1 (rd ks j) (by omega) 5000 (by omega)))
                    rw [List.length_map] at HC
                    generalize rd ks j = key at z0 HC HS2 HSL
                    go_wp2_with fail
                    refine HC.out.mono ?_
                    rintro e w4 ⟨v4, rfl, hR, hB⟩
                    obtain ⟨A4, c4, rfl, hL4⟩ := LIs.ofR (ab := ab) (bo := bo') hR HA.out.lt (fun k hk => (HA.out.bo k hk).2)
                    have HL4 := Aside0.mk hL4
                    have HA4 := Aside0.mk (HA.out.next hB)
                    have HX4 := Aside0.mk (HX.out.below hB)
                    clear hR hB hL4 HC g0 g1 g2 z0 HA HL HX
                    go_wp2_with fail
                    go_roundg (gk - 1)
                    case measure => omega
                    case rel => exact ⟨j + 1, A4, c4, _, by go_num, rfl, by omega, by have := HSL.out; omega, HS2, HA4, HL4, HX4⟩
                  · have hs := HS.out
                    rw [List.drop_of_length_le (by omega)] at hs
                    have HS3 : Aside0 (l1 = clrF ks l) := ⟨hs⟩
                    clear hs
                    go_wp2_with fail
                    go_meet
                    case rel => exact ⟨bo', A', c', l1, rfl, by omega, by rw [HS3.out]; exact HA, HL, HX⟩
              · have hb1 : (kd == 1) = false := beq_eq_false_iff_ne.2 hk1
                by_cases hk2 : kd = 2
                · subst hk2
                  clear hk0 hk1
                  go_wp2_with fail
                  refine (due_lit w wx ab bo l t HA2.out (by omega)).mono ?_
                  rintro e w3 ⟨v9, rfl, hR, hA3, hF⟩
                  have HA3 := Aside0.mk hA3
                  have HL3 := Aside0.mk (HL2.out.turn ⟨hF, .inl rfl⟩)
                  have HX3 := Aside0.mk (HX.out.turn ⟨hF, .inl rfl⟩ HG.out.1 HG.out.2)
                  obtain ⟨A9, c9, rfl⟩ := Kd.R_slice hR
                  have HC9 := Aside0.mk (Kd.R_reads' hR).2.2
                  clear hR hA3 hF HX HL2 HA2 g0 g1 g2
                  have HDL := Aside0.mk (due_len t l)
                  go_wp2_with fail
                  go_loopg [10] (due t l).length (fun kq v10 wr => ∃ n : Nat, v10 = .int .i64 n ∧ n + kq = (due t l).length ∧ Aside0 (Below w3.heap.size w3 wr))
                  case atStart => exact ⟨0, rfl, by omega, ⟨Below.refl _ _⟩⟩
                  case round =>
                    obtain ⟨n, rfl, hn, HBB⟩ := hrel
                    have HLr := Aside0.mk (HL3.out.below HBB.out)
                    have HXr := Aside0.mk (HX3.out.below HBB.out)
                    have HAr := Aside0.mk (HA3.out.next HBB.out)
                    obtain ⟨g0, g1, g2⟩ := HXr.out.cells
                    by_cases hnl : n < (due t l).length
                    · obtain ⟨h1, h2, h3⟩ := due_at hnl
                      have hnl' : (n : Int) < ((due t l).length : Int) := by omega
                      obtain ⟨adl, rfl, y0, y1⟩ := at_T70 HLr.out.row n (by omega) (by omega)
                      obtain ⟨ad9, rfl, z0⟩ := Kd.at_int (Kd.C_below HC9.out HBB.out) n (by omega) hnl'
                      rw [rd_cv h1] at y0 y1
                      rw [h3] at z0
                      simp only [Int.toNat_natCast, cv] at y0 y1 z0
                      have hb2 : decide (l[n].f0 ≤ t) = true := decide_eq_true h2
                      have hb3 : decide ((n : Int) < l.length) = true := decide_eq_true (by omega)
                      have hb4 : decide (((due t l).length : Int) ≤ n) = false := decide_eq_false (by omega)
                      generalize l[n].f0 = af at y0 hb2 h2
                      generalize l[n].f1 = ak at y1 z0 h3
                      clear h3
                      go_wp2_with fail
                      go_quiet (fail)
                      go_wp2_with fail
                      go_quiet (fail)
                      go_wp2_with fail
                      go_roundg (gk - 1)
                      case measure => omega
                      case rel => exact ⟨n + 1, by go_num, by omega, ⟨by first | exact pw_below_drewN HBB.out _ | exact pw_below_drewN (pw_below_drewN HBB.out _) _⟩⟩
                    · have hne : n = (due t l).length := by omega
                      have HNE := Aside0.mk hne
                      have hdl := due_len t l
                      have HRL : Aside0 ((rest t l).length = l.length - n) := ⟨by rw [← due_drop, List.length_drop, ← hne]⟩
                      have HDR : Aside0 (LIs wr ab bo (if c = n then A else A.map (·.add (n * 2))) (c - n) (rest t l)) := ⟨by
                        have := HLr.out.drop (m := n) (by omega)
                        rw [hne, due_drop, ← hne] at this
                        exact this⟩
                      clear hdl
                      by_cases hll : n < l.length
                      · have hend : t < l[n].f0 := by
                          have := due_end (t := t) (l := l) (by omega)
                          simpa only [← hne] using this
                        clear hne
                        obtain ⟨adl, rfl, y0, y1⟩ := at_T70 HLr.out.row n (by omega) (by omega)
                        rw [rd_cv hll] at y0 y1
                        simp only [Int.toNat_natCast, cv] at y0 y1
                        have hb2 : decide (l[n].f0 ≤ t) = false := decide_eq_false (by omega)
                        have hb3 : decide ((n : Int) < l.length) = true := decide_eq_true (by omega)
                        generalize l[n].f0 = af at y0 hb2 hend
                        clear hend y1
                        go_wp2_with fail
                        go_quiet (fail)
                        go_wp2_with fail
                        case inl h =>
                          rw [if_pos h] at HDR
                          go_meet
                          case rel => exact ⟨bo, _, _, rest t l, by rw [HRL.out, h, Nat.sub_self], by rw [HRL.out]; omega, ⟨HAr.out.next (pw_below_drewN (Below.refl _ _) _)⟩, ⟨HDR.out.below (pw_below_drewN (Below.refl _ _) _)⟩, ⟨HXr.out.below (pw_below_drewN (Below.refl _ _) _)⟩⟩
                        case inr h =>
                          rw [if_neg h] at HDR
                          go_meet
                          case rel => exact ⟨bo, _, _, rest t l, by rw [HRL.out]; rfl, by rw [HRL.out]; omega, ⟨HAr.out.next (pw_below_drewN (Below.refl _ _) _)⟩, ⟨HDR.out.below (pw_below_drewN (Below.refl _ _) _)⟩, ⟨HXr.out.below (pw_below_drewN (Below.refl _ _) _)⟩⟩
                      · have hb3 : decide ((n : Int) < l.length) = false := decide_eq_false (by omega)
                        clear hne
                        rcases A with _ | adl
                        · have hc0 := HLr.out.non rfl
                          have hcap := HLr.out.cap
                          have hl0 : l = [] := List.length_eq_zero_iff.1 (by omega)
                          subst hc0 hl0
                          have hn0 : n = 0 := HNE.out
                          subst hn0
                          simp only [List.length_nil] at hb3
                          clear hcap hll hnl
                          go_wp2_with fail
                          go_quiet (fail)
                          go_wp2_with fail
                          go_meet
                          case rel => exact ⟨bo, none, 0, [], rfl, by simp, ⟨HAr.out.next (pw_below_drewN (Below.refl _ _) _)⟩, ⟨LIs.nil _ _ _⟩, ⟨HXr.out.below (pw_below_drewN (Below.refl _ _) _)⟩⟩
                        · have hnl2 : n ≤ l.length := by have := HNE.out; have := HDL.out; omega
                          have hcap := HLr.out.cap
                          go_wp2_with fail
                          go_quiet (fail)
                          go_wp2_with fail
                          case inl h =>
                            rw [if_pos h] at HDR
                            go_meet
                            case rel => exact ⟨bo, _, _, rest t l, by rw [HRL.out, h, Nat.sub_self], by rw [HRL.out]; omega, ⟨HAr.out.next (pw_below_drewN (Below.refl _ _) _)⟩, ⟨HDR.out.below (pw_below_drewN (Below.refl _ _) _)⟩, ⟨HXr.out.below (pw_below_drewN (Below.refl _ _) _)⟩⟩
                          case inr h =>
                            rw [if_neg h] at HDR
                            go_meet
                            case rel => exact ⟨bo, _, _, rest t l, by rw [HRL.out]; rfl, by rw [HRL.out]; omega, ⟨HAr.out.next (pw_below_drewN (Below.refl _ _) _)⟩, ⟨HDR.out.below (pw_below_drewN (Below.refl _ _) _)⟩, ⟨HXr.out.below (pw_below_drewN (Below.refl _ _) _)⟩⟩
                · have hb2 : (kd == 2) = false := beq_eq_false_iff_ne.2 hk2
                  go_wp2_with fail
                  go_meet
                  case rel => exact ⟨bo, A, c, l, rfl, by omega, HA2, HL2, HX⟩
          case rest => as_aux_lemma =>
            clear HA2 HL2 HX
            obtain ⟨bo', A', c', l', rfl, hl', HA, HL, HX⟩ := hcut
            have HND := Aside0.mk HA.out.nd
            have g2 := HX.out.cells.2.2
            go_wp2_with fail
            refine (next_calls w.heap.size ab bo' l' wc HA.out.is).mono ?_
            rintro e w' ⟨rfl, rfl⟩
            have HHD : Aside0 ((((l'.head?.map (·.f0)).getD 0 = 0 ∧ (!l'.isEmpty) = false ∧ l'.length = 0)) ∨ (∃ adl, A' = some adl ∧ w'.cell? adl = some (.int .i64 ((l'.head?.map (·.f0)).getD 0)) ∧ (!l'.isEmpty) = true ∧ 0 < l'.length)) := ⟨by
              cases l' with
              | nil => exact .inl ⟨rfl, rfl, rfl⟩
              | cons a l2 =>
                obtain ⟨adl, e, y0, y1⟩ := at_T70 HL.out.row 0 (by omega) (by simp only [List.length_cons]; omega)
                exact .inr ⟨adl, e, y0, rfl, by simp⟩⟩
            have HC31 := Aside0.mk (alen_calls w.heap.size ab bo' l' w' HA.out.is)
            generalize (l'.head?.map (·.f0)).getD 0 = hd at HHD ⊢
            generalize (!l'.isEmpty) = ne at HHD ⊢
            go_upto_region 35 with fail
            go_cut [164] (fun v164 wx => v164 = .bool false ∧ Aside0 (wx = w'))
            case first => as_aux_lemma =>
              rcases HHD.out with ⟨e1, e2, e3⟩ | ⟨adl, e0, y0, e2, e3⟩
              · subst e1 e2
                obtain rfl : l' = [] := List.length_eq_zero_iff.1 e3
                clear e3
                go_wp2_with fail
                refine HC31.out.mono ?_
                rintro e w'' ⟨rfl, rfl⟩
                go_wp2_with fail
                go_meet
                case rel => exact ⟨rfl, ⟨rfl⟩⟩
              · subst e0 e2
                have hb0 : decide ((0 : Int) < (l'.length : Int)) = true := decide_eq_true (by omega)
                have hpos : (0 : Int) < (l'.length : Int) := by omega
                clear e3
                go_wp2_with fail
                refine HC31.out.mono ?_
                rintro e w'' ⟨rfl, rfl⟩
                go_wp2_with fail
                go_meet
                case rel => exact ⟨rfl, ⟨rfl⟩⟩
            case rest => as_aux_lemma =>
              obtain ⟨rfl, HW⟩ := hcut
              obtain rfl := HW.out
              go_wp2_with fail
              go_loopg [13, 14, 15] l'.length (fun kq v13 v14 v15 wr => ∃ j : Nat, v13 = .int .i64 j ∧ j + kq = l'.length ∧ Aside0 (Below wc.heap.size wc wr))
              case atStart => exact ⟨0, rfl, by omega, ⟨Below.refl _ _⟩⟩
              case round =>
                obtain ⟨j, rfl, hj, HBB⟩ := hrel
                have HLr := Aside0.mk (HL.out.below HBB.out)
                have HAr := Aside0.mk (HA.out.next HBB.out)
                have HXr := Aside0.mk (HX.out.below HBB.out)
                by_cases hjl : j < l'.length
                · obtain ⟨adl, rfl, y0, y1⟩ := at_T70 HLr.out.row j (by omega) (by omega)
                  rw [rd_cv hjl] at y0 y1
                  simp only [Int.toNat_natCast, cv] at y0 y1
                  have hjl' : (j : Int) < (l'.length : Int) := by omega
                  have HAT : Aside0 (atO l'[j].f1 l' = some l'[j].f0) := ⟨atO_some HND.out (List.getElem_mem hjl)⟩
                  generalize l'[j].f0 = af at y0 HAT
                  generalize l'[j].f1 = ak at y1 HAT
                  go_wp2_with fail
                  refine (at_calls w.heap.size ab bo' l' ak wr HAr.out.is).mono ?_
                  rintro e w5 ⟨rfl, hb5⟩
                  rw [HAT.out]
                  simp only [Option.getD_some, Option.isSome_some]
                  have y0' := cellB hb5 y0
                  have HB5 := Aside0.mk (HBB.out.trans (hb5.mono HBB.out.size))
                  clear y0 y1 hb5 HLr HAr HXr HBB
                  go_wp2_with fail
                  go_roundg (gk - 1)
                  case measure => omega
                  case rel => exact ⟨j + 1, by go_num, by omega, HB5⟩
                · have g2 := HXr.out.cells.2.2
                  go_wp2_with fail
                  clear g2
                  go_loopg [16, 17, 18, 19, 20] ks.length (fun kq v16 v17 v18 v19 v20 wr => ∃ j : Nat, v16 = .int .i64 j ∧ j + kq = ks.length ∧ Aside0 (Below wc.heap.size wc wr))
                  case atStart => exact ⟨0, rfl, by omega, HBB⟩
                  case round =>
                    clear HLr HAr HXr HBB
                    obtain ⟨j, rfl, hj, HBB⟩ := hrel
                    have HAr := Aside0.mk (HA.out.next HBB.out)
                    have HXr := Aside0.mk (HX.out.below HBB.out)
                    obtain ⟨g0, g1, g2⟩ := HXr.out.cells
                    by_cases hjk : j < ks.length
                    · have hjk' : (j : Int) < (ks.length : Int) := by omega
                      obtain ⟨adk, rfl, z0⟩ := Kd.at_int (Kd.C_below HX.out.row HAr.out.below) j (by omega) hjk'
                      simp only [Int.toNat_natCast] at z0
                      generalize rd ks j = key at z0
                      go_wp2_with fail
                      refine (at_calls w.heap.size ab bo' l' key wr HAr.out.is).mono ?_
                      rintro e w5 ⟨rfl, hb5⟩
                      have z1 := cellB hb5 z0
                      have g3 := cellB hb5 g2
                      have HB5 := Aside0.mk (HBB.out.trans (hb5.mono HBB.out.size))
                      have HK : Aside0 (∀ W, Below w5.heap.size w5 W → W.cell? (adk.add j) = some (.int .i64 key) ∧ W.cell? ⟨gx, 2, none⟩ = some (.slice (some adk) ks.length c2)) := ⟨fun W hW => ⟨cellB hW z1, cellB hW g3⟩⟩
                      clear z0 z1 g3 g0 g1 g2 hb5 HAr HXr HBB
                      go_wp2_with fail
                      go_loopg [19, 20] l'.length (fun kq v19 v20 wr => ∃ m : Nat, v20 = .int .i64 m ∧ v19 = .bool ((l'.take m).any (fun a => a.f1 == key)) ∧ m + kq = l'.length ∧ Aside0 (Below w5.heap.size w5 wr))
                      case atStart => exact ⟨0, rfl, rfl, by omega, ⟨Below.refl _ _⟩⟩
                      case round =>
                        obtain ⟨m, rfl, rfl, hm, HBB⟩ := hrel
                        by_cases hml : m < l'.length
                        · have HLr := Aside0.mk (HL.out.below (HB5.out.trans (HBB.out.mono HB5.out.size)))
                          obtain ⟨adl, rfl, y0, y1⟩ := at_T70 HLr.out.row m (by omega) (by omega)
                          rw [rd_cv hml] at y0 y1
                          simp only [Int.toNat_natCast, cv] at y0 y1
                          obtain ⟨z0, g2⟩ := HK.out _ HBB.out
                          have HAN : Aside0 ((l'.take (m + 1)).any (fun a => a.f1 == key) = ((l'.take m).any (fun a => a.f1 == key) || (l'[m].f1 == key))) := ⟨any_take hml⟩
                          generalize l'[m].f1 = ak at y1 HAN
                          clear y0
                          generalize (l'.take m).any (fun a => a.f1 == key) = th at HAN ⊢
                          cases th with
                          | true =>
                            go_wp2_with fail
                            go_quiet (fail)
                            go_wp2_with fail
                            go_roundg (l'.length - (m + 1))
                            case measure => omega
                            case rel => exact ⟨m + 1, by go_num, by rw [HAN.out]; rfl, by omega, ⟨by first | exact pw_below_drewN HBB.out _ | exact HBB.out⟩⟩
                          | false =>
                            go_wp2_with fail
                            go_quiet (fail)
                            go_wp2_with fail
                            go_roundg (l'.length - (m + 1))
                            case measure => omega
                            case rel => exact ⟨m + 1, by go_num, by rw [HAN.out]; first | rfl | (rw [Bool.false_or]), by omega, ⟨by first | exact pw_below_drewN HBB.out _ | exact HBB.out⟩⟩
                        · have HBF := Aside0.mk (HB5.out.trans (HBB.out.mono HB5.out.size))
                          rw [List.take_of_length_le (by omega), ← atO_any]
                          cases atO key l' with
                          | none =>
                            simp only [Option.getD_none, Option.isSome_none]
                            go_wp2_with fail
                            go_roundg (ks.length - (j + 1))
                            case measure => omega
                            case rel => exact ⟨j + 1, by go_num, by omega, HBF⟩
                          | some a =>
                            simp only [Option.getD_some, Option.isSome_some]
                            go_wp2_with fail
                            go_roundg (ks.length - (j + 1))
                            case measure => omega
                            case rel => exact ⟨j + 1, by go_num, by omega, HBF⟩
                    · clear g0 g1
                      have HLr := Aside0.mk (HL.out.below HBB.out)
                      go_wp2_with fail
                      go_roundg (acts.length - (i + 1))
                      case measure => omega
                      case rel => exact ⟨i + 1, bo', A', c', l', by go_num, rfl, by omega, hl', HAr, HLr⟩
      · go_wp2_with fail
        go_ret
        exact ⟨rfl, HA.out.below⟩
end Go.Proofs.Ytcdlccnpbhjgkaa.Ti
