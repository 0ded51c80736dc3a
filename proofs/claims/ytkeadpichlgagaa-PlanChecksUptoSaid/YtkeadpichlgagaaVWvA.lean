/- Kept of the text WvA: what is reached (wip/tools/prune.py). -/
import Derived.Test.YtkeadpichlgagaaVPm7
import Derived.Test.YtkeadpichlgagaaVPWaveReadyx1
import Derived.Test.YtkeadpichlgagaaVSl
import Derived.StillTailTactics
import Derived.Deep.LoopGhost
namespace Go.Proofs.Ytkeadpichlgagaa.Wv
open Go.RowKit Go.Maps Go.Proofs.YtkeadpichlgagaaW.PrintWords Go.Proofs.YtkeadpichlgagaaW.PrintLast Go.Proofs.YtkeadpichlgagaaW.PrintMore
open Go.Proofs.Ytkeadpichlgagaa.PWaveReady Go.Proofs.Ytkeadpichlgagaa.Mp
set_option linter.unusedVariables false
set_option linter.unusedSimpArgs false
set_option linter.unnecessarySimpa false
theorem info3 : (Try.prog.info? 3).map (fun i => (i.zero, i.size, i.bytes)) = some (some (.int .i64 0), 1, 8) := by kernel_rfl
theorem rd_g (xs : Q) (i : Nat) : rd xs (i : Int) = g xs i := by unfold rd g; rw [Int.toNat_natCast]
set_option maxRecDepth 100000 in
theorem qlen_calls (A : Option Addr) (n c : Nat) (w : World) : Calls Try.prog 107 #[.slice A n c] w fun e w' => e = .returned (.int .i64 n) ∧ w' = w := by
  go_enter Try.func107, Try.ntmps107
  go_wp2
  go_ret
  exact ⟨rfl, rfl⟩
set_option maxRecDepth 100000 in
theorem qless_calls (A : Option Addr) (n c : Nat) (xs : Q) (i j : Nat) (w : World) (h : (Kd.int .i64).C w A n xs) (hi : i < n) (hj : j < n) :
    Calls Try.prog 186 #[.slice A n c, .int .i64 i, .int .i64 j] w fun e w' => e = .returned (.bool (decide (lt (g xs i) (g xs j)))) ∧ ∃ m, w' = w.drewN m := by
  have hi' : (i : Int) < (n : Int) := by omega
  have hj' : (j : Int) < (n : Int) := by omega
  obtain ⟨ad, rfl, x0⟩ := Kd.at_int h i (by omega) hi'
  obtain ⟨ad', e, y0⟩ := Kd.at_int h j (by omega) hj'
  cases e
  rw [rd_g] at x0 y0
  simp only [Int.toNat_natCast] at x0 y0
  unfold lt
  generalize g xs i = x at *
  generalize g xs j = y at *
  clear h
  go_enter Try.func186, Try.ntmps186
  go_wp2_with fail
  go_quiet (fail)
  go_wp2_with fail
  go_ret
  exact ⟨rfl, _, rfl⟩
abbrev QR (w : World) (B : Nat) (v : Value) (xs : Q) : Prop := (Kd.int .i64).R 3 w B (fun _ => True) v xs
theorem QR.elem {w : World} {B gb n c : Nat} {xs : Q} (h : QR w B (.slice (some ⟨gb, 0, none⟩) n c) xs) {i : Nat} (hi : i < n) :
    w.cell? ⟨gb, i, none⟩ = some (.int .i64 (g xs i)) ∧ ∀ k, w.frozen? ⟨gb, k, none⟩ = false := by
  obtain ⟨cs, hl, hM, hc, hf⟩ := Kd.R_elem h (0 : Int) (i : Int) (by omega) (by omega)
  have hM' : cs = [.int .i64 (xs.getD (i : Int).toNat 0)] := hM
  subst hM'
  obtain ⟨inner, hown⟩ := Kd.R_own h
  obtain ⟨cells, hcc⟩ := own_typed hown gb (by simp [Value.ownBlock])
  have h0 := hc 0 _ rfl
  have e : (i : Int).toNat * (Kd.int .i64).sz + 0 = i := by rw [Int.toNat_natCast]; show i * 1 + 0 = i; omega
  rw [e, Int.toNat_natCast] at h0
  exact ⟨h0, fun k => blk_frozen hcc _⟩
theorem QR.put {w : World} {B gb n c : Nat} {xs : Q} (h : QR w B (.slice (some ⟨gb, 0, none⟩) n c) xs) {i : Nat} (hi : i < n) (x : Int) :
    QR (w.setCell ⟨gb, i, none⟩ (.int .i64 x)) B (.slice (some ⟨gb, 0, none⟩) n c) (xs.set i x) := by
  obtain ⟨cs, hl, hM, hc, hf⟩ := Kd.R_elem h (0 : Int) (i : Int) (by omega) (by omega)
  have := (Kd.R_seg h (i : Int) (by omega) (by omega) (seg := [.int .i64 x]) (j := 0) (x' := x) (okp := fun k => True ∧ k ≠ gb) hl hc (by simp [show (Kd.int .i64).sz = 1 from rfl])
    (by
      have e : cs.take 0 ++ [Value.int .i64 x] ++ cs.drop (0 + [Value.int .i64 x].length) = [.int .i64 x] := by
        rw [List.take_zero, List.nil_append, List.drop_of_length_le (by rw [hl]; exact Nat.le_refl 1), List.append_nil]
      rw [e]
      rfl) (fun k hk => hk)).1
  rw [Int.toNat_natCast] at this
  have e : i * (Kd.int .i64).sz + 0 = i := Nat.mul_one i
  rw [e] at this
  exact this
set_option maxRecDepth 100000 in
theorem qswap_calls (B : Nat) (gb n c : Nat) (xs : Q) (i j : Nat) (w : World) (h : QR w B (.slice (some ⟨gb, 0, none⟩) n c) xs) (hi : i < n) (hj : j < n) :
    Calls Try.prog 187 #[.slice (some ⟨gb, 0, none⟩) n c, .int .i64 i, .int .i64 j] w fun e w' => e = .returned (.tuple #[]) ∧ QR w' B (.slice (some ⟨gb, 0, none⟩) n c) (sw xs i j) ∧ FrS (fun k => k = gb) w w' := by
  have hi' : (i : Int) < (n : Int) := by omega
  have hj' : (j : Int) < (n : Int) := by omega
  obtain ⟨x0, hf⟩ := h.elem hi
  obtain ⟨y0, _⟩ := h.elem hj
  have H := Aside0.mk h
  clear h
  unfold sw
  generalize hx : g xs i = x at *
  generalize hy : g xs j = y at *
  have P := (H.out.put hi y).put hj x
  have F := (FrS.set1 w gb i (.int .i64 y)).trans (FrS.set1 _ gb j (.int .i64 x))
  have HP := Aside0.mk (Kd.R_drew P)
  have HF := Aside0.mk F.drew
  clear P F
  by_cases hij : i = j
  · subst hij
    obtain rfl : x = y := hx.symm.trans hy
    go_enter Try.func187, Try.ntmps187
    go_wp2_with fail
    go_region
    go_end0
    exact ⟨rfl, HP.out, HF.out⟩
  · have z0 : (w.setCell ⟨gb, i, none⟩ (.int .i64 y)).cell? ⟨gb, j, none⟩ = some (.int .i64 y) := (World.cell?_setCell_other w _ _ _ (by simpa using hij)).trans y0
    go_enter Try.func187, Try.ntmps187
    go_wp2_with fail
    go_region
    go_end0
    exact ⟨rfl, HP.out, HF.out⟩
theorem load132 (a : Addr) (v : Value) (w : World) (h : w.cell? a = some v) : (loadVar 132 a).run Try.prog w = .ok v w := by
  have hs : (Try.prog.info? 132).map (·.size) = some 1 := by kernel_rfl
  obtain ⟨i, hi, hsz⟩ := Option.map_eq_some_iff.1 hs
  simp [loadVar, sizeOf, typeInfo, hi, hsz, h, isAgg]
theorem wrapnil (xt : TypeId) (a : Addr) (name : String) : Builtin.ssaWrapNilChk_ #[xt] xt #[.pointer (some a), strVal "", strVal name] = pure (.pointer (some a)) := rfl
theorem method_of {name : String} {f : FuncId} {pr : Bool} (hm : (Try.prog.info? 134).map (fun i => (i.methods.find? (·.name == name)).map (fun m => (m.path, m.func))) = some (some (#[], some (f, pr)))) (a : Addr) (v : Value) (w : World) (h : w.cell? a = some v) :
    (method 319 134 (.pointer (some a)) name).run Try.prog w = .ok (f, if pr then .pointer (some a) else v) w := by
  obtain ⟨i, hi, hsz⟩ := Option.map_eq_some_iff.1 hm
  obtain ⟨m, hf, hp⟩ := Option.map_eq_some_iff.1 hsz
  simp only [Prod.mk.injEq] at hp
  obtain ⟨hp1, hp2⟩ := hp
  have hu := Try.underlying134
  have hl := load132 a v w h
  unfold method
  cases pr
  · simp [typeInfo, hi, hf, hp1, hp2, follow]
    unfold receiverAt
    simp [run_underlying hu, Place.get, wrapnil, asAddr, hl]
  · simp [typeInfo, hi, hf, hp1, hp2, follow]
    unfold receiverAt
    simp [run_underlying hu, Place.get]
theorem mLen (a : Addr) (v : Value) (w : World) (h : w.cell? a = some v) : (method 319 134 (.pointer (some a)) "Len").run Try.prog w = .ok (107, v) w := method_of (name := "Len") (f := 107) (pr := false) (by kernel_rfl) a v w h
theorem mLess (a : Addr) (v : Value) (w : World) (h : w.cell? a = some v) : (method 319 134 (.pointer (some a)) "Less").run Try.prog w = .ok (186, v) w := method_of (name := "Less") (f := 186) (pr := false) (by kernel_rfl) a v w h
theorem mSwap (a : Addr) (v : Value) (w : World) (h : w.cell? a = some v) : (method 319 134 (.pointer (some a)) "Swap").run Try.prog w = .ok (187, v) w := method_of (name := "Swap") (f := 187) (pr := false) (by kernel_rfl) a v w h
theorem mPop (a : Addr) (v : Value) (w : World) (h : w.cell? a = some v) : (method 319 134 (.pointer (some a)) "Pop").run Try.prog w = .ok (188, .pointer (some a)) w := method_of (name := "Pop") (f := 188) (pr := true) (by kernel_rfl) a v w h
theorem mPush (a : Addr) (v : Value) (w : World) (h : w.cell? a = some v) : (method 319 134 (.pointer (some a)) "Push").run Try.prog w = .ok (189, .pointer (some a)) w := method_of (name := "Push") (f := 189) (pr := true) (by kernel_rfl) a v w h
theorem cf107 (args : Array Value) (w : World) : (callFunc 107 args).run Try.prog w = .ok (.enter 107 args) w := by kernel_rfl
theorem cf186 (args : Array Value) (w : World) : (callFunc 186 args).run Try.prog w = .ok (.enter 186 args) w := by kernel_rfl
theorem cf187 (args : Array Value) (w : World) : (callFunc 187 args).run Try.prog w = .ok (.enter 187 args) w := by kernel_rfl
theorem cf188 (args : Array Value) (w : World) : (callFunc 188 args).run Try.prog w = .ok (.enter 188 args) w := by kernel_rfl
theorem cf189 (args : Array Value) (w : World) : (callFunc 189 args).run Try.prog w = .ok (.enter 189 args) w := by kernel_rfl
end Go.Proofs.Ytkeadpichlgagaa.Wv
