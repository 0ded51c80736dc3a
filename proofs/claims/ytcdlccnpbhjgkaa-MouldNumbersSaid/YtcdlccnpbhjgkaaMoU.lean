/- mould: Is, Right, Same, bytes.Equal, walked. -/
import Derived.Test.YtcdlccnpbhjgkaaMoZ
namespace Go.Proofs.Ytcdlccnpbhjgkaa.Mo
open Go.RowKit Go.Maps Go.Proofs.YtcdlccnpbhjgkaaW.PrintWords Go.Proofs.YtcdlccnpbhjgkaaW.PrintLast Go.Proofs.YtcdlccnpbhjgkaaW.PrintMore
open Go.Proofs.Ytcdlccnpbhjgkaa.PMouldPuts Go.Proofs.Ytcdlccnpbhjgkaa.Mp
set_option linter.unusedVariables false
set_option linter.unusedSimpArgs false

/-- Are values of a shape? -/
def isS (l : List UInt8) (vs : List S33) : Bool :=
  match parseF l with
  | none => false
  | some k => vs.all (hasS k)
theorem cf70 (args : Array Value) (w : World) : (callFunc 70 args).run Try.prog w = .ok (.enter 70 args) w := by kernel_rfl
set_option maxRecDepth 100000 in
theorem isclo_calls (k : Sh) (g bx : Nat) (ok : Nat → Prop) (w : World) (hK : KindIs w ok k g) (hx : w.cell? ⟨bx, 0, none⟩ = some (.pointer (some ⟨g, 0, none⟩))) (v : S33) (A1 : Option Addr) (c1 : Nat) (A2 : Option Addr) (c2 : Nat) (hV : ValIs w v A1 c1 A2 c2) :
    Calls Try.prog 70 #[.agg #[.int .u64 v.f0, .slice A1 v.f1.length c1, .slice A2 v.f2.length c2], .pointer (some ⟨bx, 0, none⟩)] w fun e w' => e = .returned (.bool (!hasS k v)) ∧ Below w.heap.size w w' := by
  have HBX : Aside0 (Below w.heap.size w (w.alloc (.cells #[.int .u64 v.f0, .slice A1 v.f1.length c1, .slice A2 v.f2.length c2] 33))) := ⟨(Below.refl _ _).alloc (Nat.le_refl _) _⟩
  have HC := Aside0.mk (has_calls k _ ok g (hK.under HBX.out) v A1 c1 A2 c2 (hV.under HBX.out))
  have hx' := cellB HBX.out hx
  have hN := blk_new w (.cells #[.int .u64 v.f0, .slice A1 v.f1.length c1, .slice A2 v.f2.length c2] 33)
  clear hK hV hx
  generalize hasS k v = bb at HC ⊢
  go_enter Try.func70, Try.ntmps70
  go_upto_region 1 with fail
  generalize w.alloc (.cells #[.int .u64 v.f0, .slice A1 v.f1.length c1, .slice A2 v.f2.length c2] 33) = W at HBX HC hx' hN ⊢
  generalize hbn : w.heap.size = bn at hN
  have n0 : W.cell? ⟨bn, 0, none⟩ = some (.int .u64 v.f0) := (blk_cell hN 0).trans rfl
  have n1 : W.cell? ⟨bn, 1, none⟩ = some (.slice A1 v.f1.length c1) := (blk_cell hN 1).trans rfl
  have n2 : W.cell? ⟨bn, 2, none⟩ = some (.slice A2 v.f2.length c2) := (blk_cell hN 2).trans rfl
  have HL := Aside0.mk HBX.out.size
  clear hN hbn
  go_wp2_with fail
  refine HC.out.mono ?_
  rintro e w2 ⟨rfl, hB⟩
  have HB2 := Aside0.mk (HBX.out.trans (hB.mono HL.out))
  clear hB HC
  go_wp2_with fail
  go_ret
  exact ⟨rfl, HB2.out⟩
set_option maxRecDepth 100000 in
theorem is_calls (l : List UInt8) (vs : List S33) (A : Option Addr) (c : Nat) (w : World) (hC : k33.C w A vs.length vs) :
    Calls Try.prog 23 #[.string (str l), .slice A vs.length c] w fun e w' => e = .returned (.bool (isS l vs)) ∧ Below w.heap.size w w' := by
  have HP := Aside0.mk (parse_calls l w)
  have HC := Aside0.mk hC
  have hmax := hC.2.1
  obtain ⟨bb, hbb⟩ : ∃ bb, isS l vs = bb := ⟨_, rfl⟩
  have HR := Aside0.mk hbb
  unfold isS at hbb
  have HR2 := Aside0.mk hbb
  clear hC hbb
  rw [HR.out]
  clear HR
  generalize hb : str l = b at HP ⊢
  clear hb
  go_enter Try.func23, Try.ntmps23
  go_wp2_with fail
  refine HP.out.mono ?_
  rintro e w1 ⟨hB, hq⟩
  have HB := Aside0.mk hB
  clear hB HP
  rcases hq with ⟨hp, rfl⟩ | ⟨k, g, hp, rfl, hK⟩
  · rw [hp] at HR2
    clear hp
    have HBA : Aside0 (Below w.heap.size w (w1.alloc (.cells #[.pointer none] 110))) := ⟨HB.out.alloc HB.out.size _⟩
    have hN := blk_new w1 (.cells #[.pointer none] 110)
    go_upto_region 2 with fail
    generalize w1.alloc (.cells #[.pointer none] 110) = W at HBA hN ⊢
    have n0 : W.cell? ⟨w1.heap.size, 0, none⟩ = some (.pointer none) := (blk_cell hN 0).trans rfl
    clear hN
    go_wp2_with fail
    go_ret
    exact ⟨by rw [← HR2.out]; rfl, HBA.out⟩
  · rw [hp] at HR2
    simp only at HR2
    clear hp
    have HBA : Aside0 (Below w1.heap.size w1 (w1.alloc (.cells #[.pointer (some ⟨g, 0, none⟩)] 110))) := ⟨(Below.refl _ _).alloc (Nat.le_refl _) _⟩
    have hN := blk_new w1 (.cells #[.pointer (some ⟨g, 0, none⟩)] 110)
    have HKW := Aside0.mk (hK.under HBA.out)
    clear hK
    go_upto_region 2 with fail
    generalize w1.alloc (.cells #[.pointer (some ⟨g, 0, none⟩)] 110) = W at HBA hN HKW ⊢
    generalize hbx : w1.heap.size = bx at hN HBA ⊢
    have n0 : W.cell? ⟨bx, 0, none⟩ = some (.pointer (some ⟨g, 0, none⟩)) := (blk_cell hN 0).trans rfl
    have HBW : Aside0 (Below w.heap.size w W) := ⟨HB.out.trans (HBA.out.mono (by rw [← hbx]; exact HB.out.size))⟩
    have HV := Aside0.mk (vany_calls 70 #[.pointer (some ⟨bx, 0, none⟩)] (fun v => !hasS k v) A vs.length c vs W (Kd.C_below HC.out HBW.out) cf70 (fun v A1 c1 A2 c2 W1 hB1 hV1 => isclo_calls k g bx _ W1 (HKW.out.under hB1) (cellB hB1 n0) v A1 c1 A2 c2 hV1))
    clear hN hbx
    go_wp2_with fail
    refine HV.out.mono ?_
    rintro e w2 ⟨rfl, hB2⟩
    have HB2 := Aside0.mk (HBW.out.trans (hB2.mono HBW.out.size))
    rw [all_any] at HR2
    clear hB2 HV n0
    generalize (vs.any fun v => !hasS k v) = q at HR2 ⊢
    go_wp2_with fail
    go_ret
    exact ⟨by rw [← HR2.out]; rfl, HB2.out⟩

/-- Are shapes right? -/
def okS (s : ByteArray) : Bool := (parseF s.data.toList).isSome
theorem str_of (s : ByteArray) : str s.data.toList = s := by
  apply ByteArray.ext
  simp [str]
theorem cf62 (args : Array Value) (w : World) : (callFunc 62 args).run Try.prog w = .ok (.enter 62 args) w := by kernel_rfl
set_option maxRecDepth 100000 in
theorem rclo_calls (s : ByteArray) (w : World) : Calls Try.prog 62 #[.string s] w fun e w' => e = .returned (.bool (!okS s)) ∧ Below w.heap.size w w' := by
  have HP := parse_calls s.data.toList w
  rw [str_of] at HP
  have HP := Aside0.mk HP
  obtain ⟨bb, hbb⟩ : ∃ bb, okS s = bb := ⟨_, rfl⟩
  have HR := Aside0.mk hbb
  unfold okS at hbb
  have HR2 := Aside0.mk hbb
  rw [HR.out]
  clear hbb HR
  go_enter Try.func62, Try.ntmps62
  go_wp2_with fail
  refine HP.out.mono ?_
  rintro e w1 ⟨hB, hq⟩
  have HB := Aside0.mk hB
  clear hB
  rcases hq with ⟨hp, rfl⟩ | ⟨k, g, hp, rfl, hK⟩
  · rw [hp] at HR2
    clear hp
    go_wp2_with fail
    go_ret
    exact ⟨by rw [← HR2.out]; rfl, HB.out⟩
  · rw [hp] at HR2
    clear hp hK
    go_wp2_with fail
    go_ret
    exact ⟨by rw [← HR2.out]; rfl, HB.out⟩
set_option maxRecDepth 100000 in
theorem sidx_calls (A : Option Addr) (n c : Nat) (xs : List ByteArray) (w : World) (h : Kd.string.C w A n xs) :
    Calls Try.prog 87 #[.slice A n c, .func (.func 62) #[] #[]] w fun e w' => ∃ r : Int, e = .returned (.int .i64 r) ∧ (0 ≤ r ↔ xs.any (fun s => !okS s) = true) ∧ Below w.heap.size w w' := by
  have HN : Aside0 (xs.length = n) := ⟨h.1⟩
  have H := Aside0.mk h
  have hmax := h.2.1
  have hcf := cf62
  clear h
  go_enter Try.func87, Try.ntmps87
  go_wp2_with fail
  go_loopg [5, 8] n (fun kq v5 v8 wr => ∃ i : Nat, v8 = .int .i64 i ∧ i + kq = n ∧ Aside0 ((xs.take i).any (fun s => !okS s) = false) ∧ Aside0 (Below w.heap.size w wr))
  case atStart => exact ⟨0, rfl, by omega, ⟨rfl⟩, ⟨Below.refl _ _⟩⟩
  case round =>
    obtain ⟨i, rfl, hi, HF, HBl⟩ := hrel
    by_cases hlt : i < n
    · have hlt' : (i : Int) < (n : Int) := by omega
      have hCr := Kd.C_below H.out HBl.out
      obtain ⟨ad, rfl, _⟩ := hCr.2.2 (by omega)
      have x0 := Kd.foot_string hCr (i : Int) (by omega) hlt'
      simp only [Int.toNat_natCast] at x0
      have hil : i < xs.length := by rw [HN.out]; exact hlt
      have HT := Aside0.mk (any_take (fun s => !okS s) xs i hil)
      have HM : Aside0 ((!okS xs[i]) = true → xs.any (fun s => !okS s) = true) := ⟨fun h => List.any_eq_true.2 ⟨_, List.getElem_mem hil, h⟩⟩
      have hrd : rdOf ByteArray.empty xs (i : Int) = xs[i] := by simp [rdOf, hil]
      rw [hrd] at x0
      clear hrd hCr
      generalize xs[i] = s at x0 HT HM
      have HC := Aside0.mk (rclo_calls s wr)
      generalize (!okS s) = p at HT HM HC
      clear hil
      go_wp2_with fail
      refine HC.out.mono ?_
      rintro e w2 ⟨rfl, hB⟩
      have HB2 := Aside0.mk (HBl.out.trans (hB.mono HBl.out.size))
      clear hB x0 HC
      cases p with
      | true =>
        have HA := Aside0.mk (HM.out rfl)
        clear HM
        go_wp2_with fail
        go_ret
        exact ⟨_, rfl, ⟨fun _ => HA.out, fun _ => by omega⟩, HB2.out⟩
      | false =>
        have HT2 : Aside0 ((xs.take (i + 1)).any (fun s => !okS s) = false) := ⟨by rw [HT.out, HF.out]; rfl⟩
        clear HM
        go_wp2_with fail
        go_roundg (gk - 1)
        case measure => omega
        case rel => exact ⟨i + 1, by go_num, by omega, HT2, HB2⟩
    · have HT2 : Aside0 (xs.any (fun s => !okS s) = false) := ⟨by
        have hf := HF.out
        rwa [List.take_of_length_le (by rw [HN.out]; omega)] at hf⟩
      go_wp2_with fail
      go_ret
      exact ⟨-1, rfl, ⟨fun h => by omega, fun h => by rw [HT2.out] at h; cases h⟩, HBl.out⟩
set_option maxRecDepth 100000 in
theorem sany_calls (A : Option Addr) (n c : Nat) (xs : List ByteArray) (w : World) (h : Kd.string.C w A n xs) :
    Calls Try.prog 61 #[.slice A n c, .func (.func 62) #[] #[]] w fun e w' => e = .returned (.bool (xs.any (fun s => !okS s))) ∧ Below w.heap.size w w' := by
  have HC := Aside0.mk (sidx_calls A n c xs w h)
  clear h
  go_enter Try.func61, Try.ntmps61
  go_wp2_with fail
  refine HC.out.mono ?_
  rintro e w2 ⟨r, rfl, hr, hB⟩
  have HB := Aside0.mk hB
  have HR : Aside0 (decide (0 ≤ r) = xs.any (fun s => !okS s)) := ⟨by rw [Bool.eq_iff_iff, decide_eq_true_iff]; exact hr⟩
  clear hB hr
  go_wp2_with fail
  go_ret
  exact ⟨by rw [← HR.out]; rfl, HB.out⟩
set_option maxRecDepth 100000 in
theorem right_calls (A : Option Addr) (n c : Nat) (xs : List ByteArray) (w : World) (h : Kd.string.C w A n xs) :
    Calls Try.prog 16 #[.slice A n c] w fun e w' => e = .returned (.bool (xs.all okS)) ∧ Below w.heap.size w w' := by
  have HC := Aside0.mk (sany_calls A n c xs w h)
  have HA : Aside0 ((!(xs.any (fun s => !okS s))) = xs.all okS) := ⟨by rw [List.not_any_eq_all_not]; simp⟩
  clear h
  generalize xs.any (fun s => !okS s) = q at HC HA
  go_enter Try.func16, Try.ntmps16
  go_wp2_with fail
  refine HC.out.mono ?_
  rintro e w2 ⟨rfl, hB⟩
  have HB := Aside0.mk hB
  clear hB
  go_wp2_with fail
  go_ret
  exact ⟨by rw [← HA.out]; rfl, HB.out⟩
end Go.Proofs.Ytcdlccnpbhjgkaa.Mo
