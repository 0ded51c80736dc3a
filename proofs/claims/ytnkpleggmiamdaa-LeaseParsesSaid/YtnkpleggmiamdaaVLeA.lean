/- Kept of the text LeA: what is reached (wip/tools/prune.py). -/
import Derived.Test.YtnkpleggmiamdaaVPLeaseFullx1
import Derived.Test.YtnkpleggmiamdaaVSl
import Derived.BigQuiet
import Derived.StillTailTactics
namespace Go.Proofs.Ytnkpleggmiamdaa.Le
open Go.RowKit Go.Maps Go.Proofs.YtnkpleggmiamdaaW.PrintWords Go.Proofs.YtnkpleggmiamdaaW.PrintLast Go.Proofs.YtnkpleggmiamdaaW.PrintMore
open Go.Proofs.Ytnkpleggmiamdaa.PLeaseFull Go.Proofs.Ytnkpleggmiamdaa.Mp
set_option linter.unusedVariables false
set_option linter.unusedSimpArgs false
structure S85 where
  f0 : Int
  f1 : Int
def z85 : S85 := ⟨(0 : Int), (0 : Int)⟩
def k85 : Kd S85 := Kd.iso (Kd.pair (Kd.int .i64) (Kd.int .i64)) (fun x : S85 => (x.f0, x.f1))
theorem k85_open {w : World} {x : S85} {cs : List Value} (h : k85.K w x cs) : cs = [.int .i64 x.f0, .int .i64 x.f1] := by
  obtain ⟨_, _, rfl, rfl, rfl⟩ := h
  exact rfl
theorem k85_mk (w : World) (x : S85)  : k85.K w x [.int .i64 x.f0, .int .i64 x.f1] := ⟨[.int .i64 x.f0], [.int .i64 x.f1], rfl, rfl, rfl⟩
theorem k85_mkM (w : World) (base : Nat) (ok : Nat → Prop) (x : S85)  : k85.M w base ok x [.int .i64 x.f0, .int .i64 x.f1] := ⟨[.int .i64 x.f0], [.int .i64 x.f1], rfl, rfl, rfl⟩
def rd_T85 (xs : List S85) (i : Int) : S85 := xs.getD i.toNat z85
theorem at_T85 {w : World} {A : Option Addr} {n : Nat} {xs : List S85} (h : Kd.C k85 w A n xs) (i : Int) (h0 : 0 ≤ i) (h1 : i < n) : ∃ ad , A = some ad ∧ w.cell? (ad.add (i.toNat * 2)) = some (.int .i64 (rd_T85 xs i).f0) ∧ w.cell? ⟨(ad.add (i.toNat * 2)).block, (ad.add (i.toNat * 2)).off + 1, none⟩ = some (.int .i64 (rd_T85 xs i).f1) := by
  obtain ⟨ad, c, e, _, hK, hc0⟩ := Kd.C_get h z85 i h0 h1
  have hc : ∀ j u, c[j]? = some u → w.cell? (ad.add (i.toNat * 2 + j)) = some u := hc0
  obtain rfl := k85_open hK
  exact ⟨ad, e, hc 0 _ rfl, by rw [← add_field _ _ 1 (by omega)]; exact hc 1 _ rfl⟩
abbrev Tab := List (Int × Int)
def get (M : Tab) (c : Int) : Int := (alook c M).getD 0
def rightB (c o : Int) : Bool := decide (0 ≤ c ∧ c < 1048576 ∧ 1 ≤ o ∧ o < 1099511627776)
theorem right_at (c o : Int) : lease_right.f c o = some (rightB c o) := by
  unfold lease_right.f rightB
  repeat' split
  all_goals first | (simp; omega) | simp_all
theorem index_at (l : List Int) (c : Int) (hl : l.length ≤ 1000000) : ∀ k i : Nat, i ≤ l.length → l.length - i < k →
    ∃ r, slices_Index_int_int.l0 k l c (l.length : Int) (i : Int) = some r ∧ (0 ≤ r ↔ c ∈ l.drop i)
  | 0, i, _, h => by omega
  | k + 1, i, hi, hk => by
    unfold slices_Index_int_int.l0
    by_cases hlt : i < l.length
    · have e1 : wrap64 ((i : Int) + 1) = ((i + 1 : Nat) : Int) := by unfold wrap64; omega
      have e2 : rd l (i : Int) = l[i] := by simp [rd, hlt]
      rw [if_pos (by omega), if_pos (by omega), if_pos (by omega), e1, e2, List.drop_eq_getElem_cons hlt]
      by_cases hq : c = l[i]
      · rw [if_pos hq]
        exact ⟨_, rfl, fun _ => by rw [hq]; exact List.mem_cons_self, fun _ => by omega⟩
      · rw [if_neg hq]
        obtain ⟨r, h1, h2⟩ := index_at l c hl k (i + 1) (by omega) (by omega)
        exact ⟨r, h1, by rw [h2, List.mem_cons]; simp [hq]⟩
    · rw [if_neg (by omega), List.drop_of_length_le (by omega)]
      exact ⟨-1, rfl, by simp⟩
theorem contains_at (l : List Int) (c : Int) (hl : l.length ≤ 1000000) : slices_Contains_int_int.f (l.length + 1) l c = some (decide (c ∈ l)) := by
  obtain ⟨r, h1, h2⟩ := index_at l c hl (l.length + 1) 0 (Nat.zero_le _) (by omega)
  unfold slices_Contains_int_int.f slices_Index_int_int.f
  have h1' : slices_Index_int_int.l0 (l.length + 1) l c (l.length : Int) 0 = some r := h1
  rw [h1']
  show some (decide (r ≥ 0)) = _
  rw [List.drop_zero] at h2
  exact congrArg some (decide_eq_decide.2 h2)
def chk (M : Tab) (o : Int) : List Int → List Int → Int
  | _, [] => 0
  | seen, c :: r => if rightB c o = false then 2 else if get M c ≠ 0 ∨ c ∈ seen then 120 else chk M o (seen ++ [c]) r
def giveF (o : Int) : Nat → List Int → Tab → Tab
  | _, [], M => M
  | i, c :: r, M => giveF o (i + 1) r (aput c (o + i) M)
def grantE (bud : Int) (M : Tab) (o : Int) (cs : List Int) : Int :=
  if rightB 0 o = false ∨ 1099511627776 - o ≤ (cs.length : Int) then 2
  else if chk M o [] cs ≠ 0 then chk M o [] cs
  else if bud - (M.length : Int) < (cs.length : Int) then 121 else 0
def grantM (bud : Int) (M : Tab) (o : Int) (cs : List Int) : Tab := if grantE bud M o cs = 0 then giveF o 0 cs M else M
structure LedIs (w : World) (p bm : Nat) (bud : Int) (M : Tab) : Prop where
  blk : w.heap[p]? = some (.cells #[.int .i64 bud, .map (some bm)] 130 (0, 0))
  map : MapIs w bm (amap (Value.int .i64) M)
theorem LedIs.ne {w : World} {p bm : Nat} {bud : Int} {M : Tab} (h : LedIs w p bm bud M) : p ≠ bm := by
  rintro rfl
  obtain ⟨es, c, hb, _⟩ := h.map.out
  rw [h.blk] at hb
  cases hb
theorem LedIs.below {w w1 : World} {p bm : Nat} {bud : Int} {M : Tab} (h : LedIs w p bm bud M) (hb : Below w.heap.size w w1) : LedIs w1 p bm bud M := ⟨blk_below h.blk hb, h.map.below hb⟩
theorem LedIs.cells {w : World} {p bm : Nat} {bud : Int} {M : Tab} (h : LedIs w p bm bud M) : w.cell? ⟨p, 0, none⟩ = some (.int .i64 bud) ∧ w.cell? ⟨p, 1, none⟩ = some (.map (some bm)) :=
  ⟨(blk_cell h.blk 0).trans rfl, (blk_cell h.blk 1).trans rfl⟩
theorem LedIs.put {w w1 : World} {p bm : Nat} {bud : Int} {M M' : Tab} (h : LedIs w p bm bud M) (hf : Fr1 w w1 bm) (hm : MapIs w1 bm (amap (Value.int .i64) M')) : LedIs w1 p bm bud M' := ⟨hf.blk h.blk h.ne, hm⟩
theorem amap_len (M : Tab) : (amap (Value.int .i64) M).length = M.length := by simp [amap]
theorem zeroI (w : World) : (zeroValue 3).run Try.prog w = .ok (.int .i64 0) w := by kernel_rfl
theorem get_at (M : Tab) (c : Int) : (alook c (amap (Value.int .i64) M)).getD (.int .i64 0) = .int .i64 (get M c) := by
  unfold get
  rw [alook_map]
  cases alook c M <;> rfl
theorem run_get {w : World} {bm : Nat} {M : Tab} (h : MapIs w bm (amap (Value.int .i64) M)) (c : Int) : (Instr.lookup 128 (.map (some bm)) (.int .i64 c) false).run Try.prog w = .ok (.int .i64 (get M c)) w := by
  have := run_lookup Try.underlying128 Try.underlying3 (zeroI w) h c false
  simpa only [Bool.false_eq_true, if_false, get_at] using this
theorem C_fr1 {A : Option Addr} {n : Nat} {xs : List Int} {w w1 : World} {b : Nat} (h : (Kd.int .i64).C w A n xs) (hf : Fr1 w w1 b) (hA : ∀ k, AtB A k → k ≠ b) : (Kd.int .i64).C w1 A n xs :=
  C_move (d := Kd.int .i64) h (fun k hk hlt => hf.block k hlt (hA k hk))
set_option maxRecDepth 100000 in
theorem order_calls (p bm : Nat) (bud : Int) (M : Tab) (c : Int) (w : World) (h : LedIs w p bm bud M) :
    Calls Try.prog 52 #[.pointer (some ⟨p, 0, none⟩), .int .i64 c] w fun e w' => e = .returned (.int .i64 (get M c)) ∧ w' = w := by
  obtain ⟨c0, c1⟩ := h.cells
  have hl := run_get h.map c
  clear h
  go_enter Try.func52, Try.ntmps52
  go_wp2_with fail
  go_ret
  exact ⟨rfl, rfl⟩
set_option maxRecDepth 100000 in
theorem left_calls (p bm : Nat) (bud : Int) (M : Tab) (w : World) (h : LedIs w p bm bud M) (hb : 0 ≤ bud ∧ bud ≤ 65535) (hM : M.length ≤ 100000) :
    Calls Try.prog 50 #[.pointer (some ⟨p, 0, none⟩)] w fun e w' => e = .returned (.int .i64 (bud - M.length)) ∧ Below w.heap.size w w' := by
  obtain ⟨c0, c1⟩ := h.cells
  have hl := fun n => run_len (tt := 3) Try.underlying128 (h.map.drewN n)
  simp only [amap_len] at hl
  obtain ⟨hb0, hb1⟩ := hb
  have e : wrap64 (bud - (M.length : Int)) = bud - M.length := by unfold wrap64; omega
  have E := Aside0.mk e
  clear h e
  go_enter Try.func50, Try.ntmps50
  go_wp2_with fail
  go_quiet (fail)
  go_wp2_with fail
  go_ret
  exact ⟨by first | rfl | rw [E.out], by first | exact pw_below_drewN (Below.refl _ _) _ | exact Below.refl _ _⟩
set_option maxRecDepth 100000 in
theorem new_calls (n : Int) (w : World) (h : 1 ≤ n ∧ n ≤ 65535) : Calls Try.prog 48 #[.int .i64 n] w fun e w' => ∃ p bm, e = .returned (.tuple #[.pointer (some ⟨p, 0, none⟩), .int .i64 0]) ∧ LedIs w' p bm n [] ∧ w.heap.size ≤ p ∧ w.heap.size ≤ bm ∧ Below w.heap.size w w' := by
  obtain ⟨h0, h1⟩ := h
  have b1 : decide (n < 1) = false := decide_eq_false (by omega)
  have b2 : decide (65535 < n) = false := decide_eq_false (by omega)
  have hmm := @run_makeMap Try.prog
  clear h0 h1
  go_enter Try.func48, Try.ntmps48
  go_wp2_with fail
  go_ret2
  exact ⟨w.heap.size + 1, w.heap.size, rfl, ⟨by simpa using blk_new (w.alloc (.map #[] 0)) (.cells #[.int .i64 n, .map (some w.heap.size)] 130), (MapIs.made w).alloc _⟩, by omega, by omega, ((Below.refl _ _).alloc (Nat.le_refl _) _).alloc (by simp) _⟩
end Go.Proofs.Ytnkpleggmiamdaa.Le
