/- timer: the queue in memory; Len, Less, Swap, Push, Pop. -/
import Derived.Test.YtcdlccnpbhjgkaaTiS
import Derived.Test.YtcdlccnpbhjgkaaPTimerAlarmsx1
import Derived.Test.YtcdlccnpbhjgkaaSl
import Derived.StillTailTactics
namespace Go.Proofs.Ytcdlccnpbhjgkaa.Ti
open Go.RowKit Go.Maps Go.Proofs.YtcdlccnpbhjgkaaW.PrintWords Go.Proofs.YtcdlccnpbhjgkaaW.PrintLast Go.Proofs.YtcdlccnpbhjgkaaW.PrintMore
open Go.Proofs.Ytcdlccnpbhjgkaa.PTimerAlarms Go.Proofs.Ytcdlccnpbhjgkaa.Mp
set_option linter.unusedVariables false
set_option linter.unusedSimpArgs false
set_option linter.unnecessarySimpa false

theorem info126 : (Try.prog.info? 126).map (fun i => (i.zero, i.size, i.bytes)) = some (some (.agg #[(.int .i64 0), (.int .i64 0)]), 2, 16) := by kernel_rfl
theorem rd_g (xs : Q) (i : Nat) : rd_T126 xs (i : Int) = g xs i := by unfold rd_T126 g; rw [Int.toNat_natCast]

set_option maxRecDepth 100000 in
theorem qlen_calls (A : Option Addr) (n c : Nat) (w : World) : Calls Try.prog 141 #[.slice A n c] w fun e w' => e = .returned (.int .i64 n) ∧ w' = w := by
  go_enter Try.func141, Try.ntmps141
  go_wp2
  go_ret
  exact ⟨rfl, rfl⟩

set_option maxRecDepth 100000 in
theorem qless_calls (A : Option Addr) (n c : Nat) (xs : Q) (i j : Nat) (w : World) (h : Kd.C k126 w A n xs) (hi : i < n) (hj : j < n) :
    Calls Try.prog 142 #[.slice A n c, .int .i64 i, .int .i64 j] w fun e w' => e = .returned (.bool (decide (lt (g xs i) (g xs j)))) ∧ ∃ m, w' = w.drewN m := by
  have hi' : (i : Int) < (n : Int) := by omega
  have hj' : (j : Int) < (n : Int) := by omega
  obtain ⟨ad, rfl, x0, x1⟩ := at_T126 h i (by omega) hi'
  obtain ⟨ad', e, y0, y1⟩ := at_T126 h j (by omega) hj'
  cases e
  rw [rd_g] at x0 x1 y0 y1
  simp only [Int.toNat_natCast] at x0 x1 y0 y1
  unfold lt
  generalize g xs i = x at *
  generalize g xs j = y at *
  clear h
  by_cases h1 : x.f0 < y.f0
  · have hb : decide (x.f0 < y.f0) = true := decide_eq_true h1
    rw [show decide (x.f0 < y.f0 ∨ x.f0 = y.f0 ∧ x.f1 < y.f1) = true from decide_eq_true (.inl h1)]
    go_enter Try.func142, Try.ntmps142
    go_wp2_with fail
    go_quiet (fail)
    go_wp2_with fail
    go_ret
    exact ⟨rfl, _, rfl⟩
  · have hb : decide (x.f0 < y.f0) = false := decide_eq_false h1
    by_cases h2 : x.f0 = y.f0
    · have hb2 : (x.f0 == y.f0) = true := by simpa using h2
      rw [show decide (x.f0 < y.f0 ∨ x.f0 = y.f0 ∧ x.f1 < y.f1) = decide (x.f1 < y.f1) from by simp [h1, h2]]
      clear h1 h2
      go_enter Try.func142, Try.ntmps142
      go_wp2_with fail
      go_quiet (fail)
      go_wp2_with fail
      go_ret
      exact ⟨rfl, _, rfl⟩
    · have hb2 : (x.f0 == y.f0) = false := by simpa using h2
      rw [show decide (x.f0 < y.f0 ∨ x.f0 = y.f0 ∧ x.f1 < y.f1) = false from by simp [h1, h2]]
      clear h1 h2
      go_enter Try.func142, Try.ntmps142
      go_wp2_with fail
      go_quiet (fail)
      go_wp2_with fail
      go_ret
      exact ⟨rfl, _, rfl⟩

abbrev QR (w : World) (B : Nat) (v : Value) (xs : Q) : Prop := Kd.R k126 126 w B (fun _ => True) v xs
theorem QR.elem {w : World} {B gb n c : Nat} {xs : Q} (h : QR w B (.slice (some ⟨gb, 0, none⟩) n c) xs) {i : Nat} (hi : i < n) :
    w.cell? ⟨gb, i * 2, none⟩ = some (.int .i64 (g xs i).f0) ∧ w.cell? ⟨gb, i * 2 + 1, none⟩ = some (.int .i64 (g xs i).f1) ∧ ∀ k, w.frozen? ⟨gb, k, none⟩ = false := by
  obtain ⟨cs, hl, hM, hc, hf⟩ := Kd.R_elem h z126 (i : Int) (by omega) (by omega)
  obtain rfl := k126_openM hM
  obtain ⟨inner, hown⟩ := Kd.R_own h
  obtain ⟨cells, hcc⟩ := own_typed hown gb (by simp [Value.ownBlock])
  have h0 : w.cell? ⟨gb, i * 2 + 0, none⟩ = some (.int .i64 (g xs i).f0) := hc 0 _ rfl
  have h1 : w.cell? ⟨gb, i * 2 + 1, none⟩ = some (.int .i64 (g xs i).f1) := hc 1 _ rfl
  exact ⟨h0, h1, fun k => blk_frozen hcc _⟩
theorem QR.put {w : World} {B gb n c : Nat} {xs : Q} (h : QR w B (.slice (some ⟨gb, 0, none⟩) n c) xs) {i : Nat} (hi : i < n) (x : S126) :
    QR ((w.setCell ⟨gb, i * 2, none⟩ (.int .i64 x.f0)).setCell ⟨gb, i * 2 + 1, none⟩ (.int .i64 x.f1)) B (.slice (some ⟨gb, 0, none⟩) n c) (xs.set i x) := by
  obtain ⟨cs, hl, hM, hc, hf⟩ := Kd.R_elem h z126 (i : Int) (by omega) (by omega)
  have := (Kd.R_seg h (i : Int) (by omega) (by omega) (seg := [.int .i64 x.f0, .int .i64 x.f1]) (j := 0) (x' := x) (okp := fun k => True ∧ k ≠ gb) hl hc (by simp [show k126.sz = 2 from rfl])
    (by
      have e : cs.take 0 ++ [Value.int .i64 x.f0, .int .i64 x.f1] ++ cs.drop (0 + [Value.int .i64 x.f0, .int .i64 x.f1].length) = [.int .i64 x.f0, .int .i64 x.f1] := by
        rw [List.take_zero, List.nil_append, List.drop_of_length_le (by rw [hl]; exact Nat.le_refl 2), List.append_nil]
      rw [e]
      exact k126_mkM _ _ _ _) (fun k hk => hk)).1
  rw [Int.toNat_natCast] at this
  exact this
theorem sets_frS (w : World) (gb i : Nat) (u v : Value) : FrS (fun k => k = gb) w ((w.setCell ⟨gb, i * 2, none⟩ u).setCell ⟨gb, i * 2 + 1, none⟩ v) :=
  ((FrS.refl (fun k => k = gb) w).set (p := ⟨gb, i * 2, none⟩) (fun _ => rfl) u).set (p := ⟨gb, i * 2 + 1, none⟩) (fun _ => rfl) v

set_option maxRecDepth 100000 in
theorem qswap_calls (B : Nat) (gb n c : Nat) (xs : Q) (i j : Nat) (w : World) (h : QR w B (.slice (some ⟨gb, 0, none⟩) n c) xs) (hi : i < n) (hj : j < n) :
    Calls Try.prog 143 #[.slice (some ⟨gb, 0, none⟩) n c, .int .i64 i, .int .i64 j] w fun e w' => e = .returned (.tuple #[]) ∧ QR w' B (.slice (some ⟨gb, 0, none⟩) n c) (sw xs i j) ∧ FrS (fun k => k = gb) w w' := by
  have hi' : (i : Int) < (n : Int) := by omega
  have hj' : (j : Int) < (n : Int) := by omega
  obtain ⟨x0, x1, hf⟩ := h.elem hi
  obtain ⟨y0, y1, _⟩ := h.elem hj
  have H := Aside0.mk h
  clear h
  unfold sw
  generalize hx : g xs i = x at *
  generalize hy : g xs j = y at *
  have P := (H.out.put hi y).put hj x
  have F := (sets_frS w gb i (.int .i64 y.f0) (.int .i64 y.f1)).trans (sets_frS _ gb j (.int .i64 x.f0) (.int .i64 x.f1))
  have HP := Aside0.mk (Kd.R_drew P)
  have HF := Aside0.mk F.drew
  clear P F
  by_cases hij : i = j
  · subst hij
    obtain rfl : x = y := hx.symm.trans hy
    go_enter Try.func143, Try.ntmps143
    go_wp2_with fail
    go_region
    go_end0
    exact ⟨rfl, HP.out, HF.out⟩
  · have n1 : ¬ (i * 2 = j * 2) := by omega
    have n2 : ¬ (j * 2 = i * 2) := by omega
    have z0 : (w.setCell ⟨gb, i * 2, none⟩ (.int .i64 y.f0)).cell? ⟨gb, j * 2, none⟩ = some (.int .i64 y.f0) := (World.cell?_setCell_other w _ _ _ (by simpa using n1)).trans y0
    go_enter Try.func143, Try.ntmps143
    go_wp2_with fail
    go_region
    go_end0
    exact ⟨rfl, HP.out, HF.out⟩
theorem load48 (a : Addr) (v : Value) (w : World) (h : w.cell? a = some v) : (loadVar 48 a).run Try.prog w = .ok v w := by
  have hs : (Try.prog.info? 48).map (·.size) = some 1 := by kernel_rfl
  obtain ⟨i, hi, hsz⟩ := Option.map_eq_some_iff.1 hs
  simp [loadVar, sizeOf, typeInfo, hi, hsz, h, isAgg]
theorem wrapnil (xt : TypeId) (a : Addr) (name : String) : Builtin.ssaWrapNilChk_ #[xt] xt #[.pointer (some a), strVal "", strVal name] = pure (.pointer (some a)) := rfl
theorem method_of {name : String} {f : FuncId} {pr : Bool} (hm : (Try.prog.info? 128).map (fun i => (i.methods.find? (·.name == name)).map (fun m => (m.path, m.func))) = some (some (#[], some (f, pr)))) (a : Addr) (v : Value) (w : World) (h : w.cell? a = some v) :
    (method 313 128 (.pointer (some a)) name).run Try.prog w = .ok (f, if pr then .pointer (some a) else v) w := by
  obtain ⟨i, hi, hsz⟩ := Option.map_eq_some_iff.1 hm
  obtain ⟨m, hf, hp⟩ := Option.map_eq_some_iff.1 hsz
  simp only [Prod.mk.injEq] at hp
  obtain ⟨hp1, hp2⟩ := hp
  have hu := Try.underlying128
  have hl := load48 a v w h
  unfold method
  cases pr
  · simp [typeInfo, hi, hf, hp1, hp2, follow]
    unfold receiverAt
    simp [run_underlying hu, Place.get, wrapnil, asAddr, hl]
  · simp [typeInfo, hi, hf, hp1, hp2, follow]
    unfold receiverAt
    simp [run_underlying hu, Place.get]
theorem mLen (a : Addr) (v : Value) (w : World) (h : w.cell? a = some v) : (method 313 128 (.pointer (some a)) "Len").run Try.prog w = .ok (141, v) w := method_of (name := "Len") (f := 141) (pr := false) (by kernel_rfl) a v w h
theorem mLess (a : Addr) (v : Value) (w : World) (h : w.cell? a = some v) : (method 313 128 (.pointer (some a)) "Less").run Try.prog w = .ok (142, v) w := method_of (name := "Less") (f := 142) (pr := false) (by kernel_rfl) a v w h
theorem mSwap (a : Addr) (v : Value) (w : World) (h : w.cell? a = some v) : (method 313 128 (.pointer (some a)) "Swap").run Try.prog w = .ok (143, v) w := method_of (name := "Swap") (f := 143) (pr := false) (by kernel_rfl) a v w h
theorem mPop (a : Addr) (v : Value) (w : World) (h : w.cell? a = some v) : (method 313 128 (.pointer (some a)) "Pop").run Try.prog w = .ok (144, .pointer (some a)) w := method_of (name := "Pop") (f := 144) (pr := true) (by kernel_rfl) a v w h
theorem mPush (a : Addr) (v : Value) (w : World) (h : w.cell? a = some v) : (method 313 128 (.pointer (some a)) "Push").run Try.prog w = .ok (145, .pointer (some a)) w := method_of (name := "Push") (f := 145) (pr := true) (by kernel_rfl) a v w h
theorem cf141 (args : Array Value) (w : World) : (callFunc 141 args).run Try.prog w = .ok (.enter 141 args) w := by kernel_rfl
theorem cf142 (args : Array Value) (w : World) : (callFunc 142 args).run Try.prog w = .ok (.enter 142 args) w := by kernel_rfl
theorem cf143 (args : Array Value) (w : World) : (callFunc 143 args).run Try.prog w = .ok (.enter 143 args) w := by kernel_rfl
theorem cf144 (args : Array Value) (w : World) : (callFunc 144 args).run Try.prog w = .ok (.enter 144 args) w := by kernel_rfl
theorem cf145 (args : Array Value) (w : World) : (callFunc 145 args).run Try.prog w = .ok (.enter 145 args) w := by kernel_rfl
end Go.Proofs.Ytcdlccnpbhjgkaa.Ti
