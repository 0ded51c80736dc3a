/- Kept of the text MrA: what is reached (wip/tools/prune.py). -/
import Derived.Test.YtnkpleggmiamdaaVPSessionParsesx1
import Derived.Test.YtnkpleggmiamdaaVMoV
namespace Go.Proofs.Ytnkpleggmiamdaa.Mo
open Go.RowKit Go.Maps Go.Proofs.YtnkpleggmiamdaaW.PrintWords Go.Proofs.YtnkpleggmiamdaaW.PrintLast Go.Proofs.YtnkpleggmiamdaaW.PrintMore
open Go.Proofs.Ytnkpleggmiamdaa.PSessionParses
set_option linter.unusedVariables false
set_option linter.unusedSimpArgs false
def plc {α : Type} (n : Nat) : Option (α × List UInt8) → Int
  | some p => (n : Int) - p.2.length
  | none => -1
theorem drop_cons {l : List UInt8} {i : Nat} (h : i < l.length) : l.drop i = l[i] :: l.drop (i + 1) := List.drop_eq_getElem_cons h
theorem bt_l (s : ByteArray) {i : Nat} (h : i < s.data.toList.length) : bt s (i : Int) = (s.data.toList[i].toNat : Int) := by
  have h2 : i < s.size := by simpa using h
  unfold bt
  simp only [Int.toNat_natCast]
  rw [dif_pos h2]
  rfl
theorem suf {l r a : List UInt8} {i : Nat} (h : l.drop i = a ++ r) : r = l.drop (l.length - r.length) := by
  have hl := congrArg List.length h
  simp only [List.length_drop, List.length_append] at hl
  have : r = (l.drop i).drop a.length := by rw [h]; simp
  rw [List.drop_drop] at this
  by_cases hr : r.length = 0
  · have : r = [] := List.length_eq_zero_iff.1 hr
    subst this
    simp
  · conv => lhs; rw [this]
    congr 1
    omega
theorem byte_ne {c d : UInt8} (h : c ≠ d) : ¬ ((c.toNat : Int) = (d.toNat : Int)) := fun e => h (UInt8.toNat_inj.1 (by omega))
theorem end_val (s : ByteArray) (hs : s.size ≤ 1000000) : ∀ n : Nat,
    (∀ (i deep : Nat), i ≤ s.size → 2 * (s.size - i) + 1 ≤ n → deep ≤ 100 → Ev (fun k => echelonref01_end.f k s i deep) (plc s.size (pt n deep (s.data.toList.drop i)))) ∧
    (∀ (i deep : Nat), i ≤ s.size → 2 * (s.size - i) + 2 ≤ n → deep ≤ 99 → Ev (fun k => echelonref01_end.l0 k s i deep) (plc s.size (pts n (deep + 1) (s.data.toList.drop i))))
  | 0 => ⟨fun i deep _ h => by omega, fun i deep _ h => by omega⟩
  | n + 1 => by
    obtain ⟨hA, hB⟩ := end_val s hs n
    have hsl : s.data.toList.length = s.size := by simp
    refine ⟨fun i deep hi hn hd => ?_, fun i deep hi hn hd => ?_⟩
    · by_cases hlt : i < s.size
      · have hll : i < s.data.toList.length := by rw [hsl]; exact hlt
        rw [drop_cons hll]
        unfold pt
        have hbt := bt_l s hll
        by_cases h8 : 8 < deep
        · rw [if_pos h8]
          refine Ev.step (f := fun k => echelonref01_end.j0 k s i deep true) (fun k => ?_) (Ev.step (f := fun k => some (-1)) (fun k => ?_) (Ev.now _))
          · conv => lhs; unfold echelonref01_end.f
            rw [if_neg (by omega), decide_eq_true (by omega)]
          · conv => lhs; unfold echelonref01_end.j0
            rw [if_pos rfl]
        · rw [if_neg h8]
          generalize hc : s.data.toList[i] = c at hbt
          refine Ev.step (f := fun k => echelonref01_end.j0 k s i deep false) (fun k => ?_) ?_
          · conv => lhs; unfold echelonref01_end.f
            rw [if_neg (by omega), decide_eq_false (by omega)]
          by_cases h1 : c = 110
          · subst h1
            rw [if_pos rfl]
            refine Ev.step (f := fun k => echelonref01_end.j1 k s i deep 110 true) (fun k => ?_) (Ev.step (f := fun k => some (wrap64 ((i : Int) + 1))) (fun k => ?_) ?_)
            · conv => lhs; unfold echelonref01_end.j0
              rw [if_neg (by decide), if_pos (by omega), if_pos (by omega), if_pos (by rw [hbt]; rfl), hbt]
              rfl
            · conv => lhs; unfold echelonref01_end.j1
              rw [if_pos rfl]
            · have e : wrap64 ((i : Int) + 1) = plc s.size (some ((Sh.mk 110 [], s.data.toList.drop (i + 1)) : Sh × List UInt8)) := by
                unfold plc wrap64
                simp
                omega
              rw [e]
              exact Ev.now _
          · rw [if_neg h1]
            have h1' : ¬ ((c.toNat : Int) = 110) := byte_ne (d := 110) h1
            by_cases h2 : c = 98
            · subst h2
              rw [if_pos rfl]
              refine Ev.step (f := fun k => echelonref01_end.j1 k s i deep 98 true) (fun k => ?_) (Ev.step (f := fun k => some (wrap64 ((i : Int) + 1))) (fun k => ?_) ?_)
              · conv => lhs; unfold echelonref01_end.j0
                rw [if_neg (by decide), if_pos (by omega), if_pos (by omega), if_neg (by rw [hbt]; decide), hbt]
                rfl
              · conv => lhs; unfold echelonref01_end.j1
                rw [if_pos rfl]
              · have e : wrap64 ((i : Int) + 1) = plc s.size (some ((Sh.mk 98 [], s.data.toList.drop (i + 1)) : Sh × List UInt8)) := by
                  unfold plc wrap64
                  simp
                  omega
                rw [e]
                exact Ev.now _
            · rw [if_neg h2]
              have h2' : ¬ ((c.toNat : Int) = 98) := byte_ne (d := 98) h2
              refine Ev.step (f := fun k => echelonref01_end.j1 k s i deep (c.toNat : Int) false) (fun k => ?_) ?_
              · conv => lhs; unfold echelonref01_end.j0
                rw [if_neg (by decide), if_pos (by omega), if_pos (by omega), if_neg (by rw [hbt]; exact h1'), hbt]
                congr 1
                simpa using h2'
              have hw : wrap64 ((i : Int) + 1) = ((i + 1 : Nat) : Int) := by unfold wrap64; omega
              have hwd : wrap64 ((deep : Int) + 1) = ((deep + 1 : Nat) : Int) := by unfold wrap64; omega
              by_cases h3 : c = 42
              · subst h3
                rw [if_pos rfl]
                refine Ev.step (f := fun k => (echelonref01_end.f k s ((i + 1 : Nat) : Int) ((deep + 1 : Nat) : Int)).bind fun t => some t) (fun k => ?_) ?_
                · conv => lhs; unfold echelonref01_end.j1
                  rw [if_neg (by decide), if_pos (by decide), hw, hwd]
                refine Ev.bind (hA (i + 1) (deep + 1) (by omega) (by omega) (by omega)) ?_
                have e : plc s.size (Option.map (fun p => (Sh.mk 42 [p.fst], p.snd)) (pt n (deep + 1) (s.data.toList.drop (i + 1)))) = plc s.size (pt n (deep + 1) (s.data.toList.drop (i + 1))) := by
                  cases pt n (deep + 1) (s.data.toList.drop (i + 1)) <;> rfl
                rw [e]
                exact Ev.now _
              · rw [if_neg h3]
                have h3' : ¬ ((c.toNat : Int) = 42) := byte_ne (d := 42) h3
                by_cases h4 : c = 91
                · subst h4
                  rw [if_pos rfl]
                  refine Ev.step (f := fun k => echelonref01_end.l0 k s ((i + 1 : Nat) : Int) (deep : Int)) (fun k => ?_) ?_
                  · conv => lhs; unfold echelonref01_end.j1
                    rw [if_neg (by decide), if_neg (by decide), if_pos (by decide), hw]
                  have e : plc s.size (Option.map (fun p => (Sh.mk 91 p.fst, p.snd)) (pts n (deep + 1) (s.data.toList.drop (i + 1)))) = plc s.size (pts n (deep + 1) (s.data.toList.drop (i + 1))) := by
                    cases pts n (deep + 1) (s.data.toList.drop (i + 1)) <;> rfl
                  rw [e]
                  exact hB (i + 1) deep (by omega) (by omega) (by omega)
                · rw [if_neg h4]
                  have h4' : ¬ ((c.toNat : Int) = 91) := byte_ne (d := 91) h4
                  refine Ev.step (f := fun k => some (-1)) (fun k => ?_) (Ev.now _)
                  conv => lhs; unfold echelonref01_end.j1
                  rw [if_neg (by decide), if_neg h3', if_neg h4']
      · have hnil : s.data.toList.drop i = [] := List.drop_of_length_le (by rw [hsl]; omega)
        rw [hnil]
        unfold pt
        refine Ev.step (f := fun k => echelonref01_end.j0 k s i deep true) (fun k => ?_) (Ev.step (f := fun k => some (-1)) (fun k => ?_) (Ev.now _))
        · conv => lhs; unfold echelonref01_end.f
          rw [if_pos (by omega)]
        · conv => lhs; unfold echelonref01_end.j0
          rw [if_pos rfl]
    · by_cases hlt : i < s.size
      · have hll : i < s.data.toList.length := by rw [hsl]; exact hlt
        have hbt := bt_l s hll
        have hdc := drop_cons hll
        generalize hc : s.data.toList[i] = c at hbt hdc
        rw [hdc]
        unfold pts
        by_cases h93 : c = 93
        · subst h93
          rw [if_pos rfl]
          refine Ev.step (f := fun k => echelonref01_end.j3 k s i deep false) (fun k => ?_) (Ev.step (f := fun k => some (wrap64 ((i : Int) + 1))) (fun k => ?_) ?_)
          · conv => lhs; unfold echelonref01_end.l0
            rw [if_pos (by omega), if_pos (by omega), hbt]
            rfl
          · conv => lhs; unfold echelonref01_end.j3
            rw [if_neg (by decide), if_pos (by omega)]
          · have e : wrap64 ((i : Int) + 1) = plc s.size (some (([], s.data.toList.drop (i + 1)) : List Sh × List UInt8)) := by
              unfold plc wrap64
              simp
              omega
            rw [e]
            exact Ev.now _
        · rw [if_neg h93]
          have h93' : ¬ ((c.toNat : Int) = 93) := byte_ne (d := 93) h93
          have hwd : wrap64 ((deep : Int) + 1) = ((deep + 1 : Nat) : Int) := by unfold wrap64; omega
          refine Ev.step (f := fun k => echelonref01_end.j3 k s i deep true) (fun k => ?_) (Ev.step (f := fun k => (echelonref01_end.f k s (i : Int) ((deep + 1 : Nat) : Int)).bind fun t118 => (if t118 < 0 then (some (-1)) else (echelonref01_end.l0 k s t118 deep))) (fun k => ?_) ?_)
          · conv => lhs; unfold echelonref01_end.l0
            rw [if_pos (by omega), if_pos (by omega), hbt]
            congr 1
            simpa using h93'
          · conv => lhs; unfold echelonref01_end.j3
            rw [if_pos rfl, hwd]
          · have hAi := hA i (deep + 1) (by omega) (by omega) (by omega)
            rw [hdc] at hAi
            refine Ev.bind hAi ?_
            cases hp : pt n (deep + 1) (c :: s.data.toList.drop (i + 1)) with
            | none =>
              simp only [plc]
              exact Ev.now _
            | some p =>
              obtain ⟨k1, r⟩ := p
              have hlen := (pt_len n).1 _ _ _ _ hp
              obtain ⟨hr, _, _⟩ := (pt_ren n).1 _ _ _ _ hp
              rw [← hdc] at hr
              have hs2 := suf hr
              have hlr : r.length ≤ s.size := by have := congrArg List.length hr; simp at this; omega
              rw [← hdc] at hlen
              simp only [List.length_drop] at hlen
              simp only [plc]
              simp only [show ¬ ((s.size : Int) - (r.length : Int) < 0) by omega, if_false]
              have e1 : (s.size : Int) - (r.length : Int) = ((s.size - r.length : Nat) : Int) := by omega
              rw [e1]
              have hBi := hB (s.size - r.length) deep (by omega) (by omega) hd
              rw [hsl] at hs2
              rw [← hs2] at hBi
              have e2 : plc s.size (Option.map (fun q => (k1 :: q.fst, q.snd)) (pts n (deep + 1) r)) = plc s.size (pts n (deep + 1) r) := by
                cases pts n (deep + 1) r <;> rfl
              simp only [plc] at e2 hBi ⊢
              rw [e2]
              exact hBi
      · have hnil : s.data.toList.drop i = [] := List.drop_of_length_le (by rw [hsl]; omega)
        rw [hnil]
        unfold pts
        refine Ev.step (f := fun k => echelonref01_end.j3 k s i deep false) (fun k => ?_) (Ev.step (f := fun k => some (-1)) (fun k => ?_) (Ev.now _))
        · conv => lhs; unfold echelonref01_end.l0
          rw [if_neg (by omega)]
        · conv => lhs; unfold echelonref01_end.j3
          rw [if_neg (by decide), if_neg (by omega)]
end Go.Proofs.Ytnkpleggmiamdaa.Mo
