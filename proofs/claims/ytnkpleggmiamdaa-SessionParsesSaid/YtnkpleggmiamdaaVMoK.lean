/- Kept of the text MoK: what is reached (wip/tools/prune.py). -/
import Derived.Test.YtnkpleggmiamdaaVG5
import Derived.Test.YtnkpleggmiamdaaVSl
namespace Go.Proofs.Ytnkpleggmiamdaa.Mo
open Go.RowKit Go.Maps Go.Proofs.YtnkpleggmiamdaaW.PrintWords Go.Proofs.YtnkpleggmiamdaaW.PrintLast Go.Proofs.YtnkpleggmiamdaaW.PrintMore
open Go.Proofs.Ytnkpleggmiamdaa.PSessionParses Go.Proofs.Ytnkpleggmiamdaa.Mp
set_option linter.unusedVariables false
set_option linter.unusedSimpArgs false
inductive Sh where
  | mk (c : Int) (ks : List Sh)
instance : Inhabited Sh := ⟨.mk 0 []⟩
mutual
/-- The first part of a text, in so many others, and what is left. -/
def pt : Nat → Nat → List UInt8 → Option (Sh × List UInt8)
  | 0, _, _ => none
  | _ + 1, _, [] => none
  | f + 1, deep, c :: s =>
    if 8 < deep then none
    else if c = 110 then some (.mk 110 [], s)
    else if c = 98 then some (.mk 98 [], s)
    else if c = 42 then (pt f (deep + 1) s).map fun p => (.mk 42 [p.1], p.2)
    else if c = 91 then (pts f (deep + 1) s).map fun p => (.mk 91 p.1, p.2)
    else none
def pts : Nat → Nat → List UInt8 → Option (List Sh × List UInt8)
  | 0, _, _ => none
  | _ + 1, _, [] => none
  | f + 1, deep, c :: s =>
    if c = 93 then some ([], s)
    else match pt f deep (c :: s) with
      | none => none
      | some p => (pts f deep p.2).map fun q => (p.1 :: q.1, q.2)
end
def parseF (l : List UInt8) : Option Sh :=
  if 64 < l.length then none else match pt (2 * l.length + 1) 0 l with
    | some (k, []) => some k
    | _ => none
def ptrV (g : Nat) : Value := .pointer (some ⟨g, 0, none⟩)
abbrev kP : Kd Nat := Kd.scalar ptrV (fun _ => rfl)
theorem C_moveK {α : Type} {d : Kd α} {A : Option Addr} {n : Nat} {xs : List α} {w w1 : World} (h : d.C w A n xs) (hm : ∀ b, AtB A b → b < w.heap.size → w1.heap[b]? = w.heap[b]?) (hK : ∀ x cs, d.K w x cs → d.K w1 x cs) : d.C w1 A n xs := by
  refine ⟨h.1, h.2.1, fun hn => ?_⟩
  obtain ⟨ad, rfl, hc⟩ := h.2.2 hn
  refine ⟨ad, rfl, fun j p hp => ?_⟩
  obtain ⟨c, hl, hk, hcell⟩ := hc j p hp
  refine ⟨c, hl, hK _ _ hk, fun i u hu => ?_⟩
  have h1 := hcell i u hu
  have hlt := cell_lt h1
  rw [add_block] at hlt
  rw [← h1]
  exact World.cell?_of_block (w := w) (by rw [add_block]; exact hm _ (AtB.some ad) hlt)
inductive KindIs (w : World) (ok : Nat → Prop) : Sh → Nat → Prop
  | mk {c : Int} {ks : List Sh} {g : Nat} {A : Option Addr} {cap : Nat} {gs : List Nat}
      (hg : ok g) (hb : w.heap[g]? = some (.cells #[.int .u8 c, .slice A ks.length cap] 157 (0, 0)))
      (hC : kP.C w A ks.length gs) (hA : ∀ j, AtB A j → ok j ∧ j < w.heap.size) (hcap : ks.length ≤ cap) (hw : c = 42 → 0 < ks.length)
      (hk : ∀ (i : Nat) (h : i < ks.length), KindIs w ok ks[i] (gs.getD i 0)) : KindIs w ok (.mk c ks) g
theorem KindIs.mono {w : World} {ok ok' : Nat → Prop} {k : Sh} {g : Nat} (h : KindIs w ok k g) (hok : ∀ j, ok j → ok' j) : KindIs w ok' k g := by
  induction h with
  | mk hg hb hC hA hcap hw hk ih => exact .mk (hok _ hg) hb hC (fun j hj => ⟨hok j (hA j hj).1, (hA j hj).2⟩) hcap hw ih
theorem KindIs.bound {w : World} {ok : Nat → Prop} {k : Sh} {g : Nat} (h : KindIs w ok k g) : KindIs w (fun j => ok j ∧ j < w.heap.size) k g := by
  induction h with
  | mk hg hb hC hA hcap hw hk ih => exact .mk ⟨hg, blk_lt hb⟩ hb hC (fun j hj => ⟨hA j hj, (hA j hj).2⟩) hcap hw ih
theorem KindIs.move0 {w w1 : World} {ok : Nat → Prop} {k : Sh} {g : Nat} (h : KindIs w ok k g) (hm : ∀ j, ok j → w1.heap[j]? = w.heap[j]?) (hs : w.heap.size ≤ w1.heap.size) : KindIs w1 ok k g := by
  induction h with
  | mk hg hb hC hA hcap hw hk ih => exact .mk hg ((hm _ hg).trans hb) (C_moveK hC (fun j hj _ => hm j (hA j hj).1) (fun _ _ h => h)) (fun j hj => ⟨(hA j hj).1, Nat.lt_of_lt_of_le (hA j hj).2 hs⟩) hcap hw ih
theorem KindIs.move {w w1 : World} {ok : Nat → Prop} {k : Sh} {g : Nat} (h : KindIs w ok k g) (hm : ∀ j, ok j → j < w.heap.size → w1.heap[j]? = w.heap[j]?) (hs : w.heap.size ≤ w1.heap.size) : KindIs w1 ok k g :=
  (h.bound.move0 (fun j hj => hm j hj.1 hj.2) hs).mono (fun _ hj => hj.1)
theorem KindIs.under {w w1 : World} {ok : Nat → Prop} {k : Sh} {g : Nat} (h : KindIs w ok k g) (hb : Below w.heap.size w w1) : KindIs w1 ok k g := h.move (fun j _ hj => hb.block j hj) hb.size
theorem KindIs.lt {w : World} {ok : Nat → Prop} {k : Sh} {g : Nat} (h : KindIs w ok k g) : g < w.heap.size := by
  cases h with | mk hg hb hC hA hcap hw hk => exact blk_lt hb
theorem KindIs.at {w : World} {ok : Nat → Prop} {k : Sh} {g : Nat} (h : KindIs w ok k g) : ok g := by
  cases h with | mk hg hb hC hA hcap hw hk => exact hg
theorem KindIs.built {w : World} {B : Nat} {ok : Nat → Prop} {c : Int} {ks : List Sh} {g : Nat} {v : Value} {gs : List Nat} (hg : ok g) (hb : w.heap[g]? = some (.cells #[.int .u8 c, v] 157 (0, 0))) (hR : kP.R 133 w B ok v gs) (hl : gs.length = ks.length) (hw : c = 42 → 0 < ks.length)
    (hk : ∀ (i : Nat) (h : i < ks.length), KindIs w ok ks[i] (gs.getD i 0)) : KindIs w ok (.mk c ks) g := by
  have hlt := Kd.R_lt hR
  have hok := hR.1
  obtain ⟨A, cap, rfl, hcap, hC⟩ := Kd.R_reads hR
  rw [hl] at hb hcap hC hlt hok
  refine .mk hg hb hC (fun j hj => ?_) hcap hw hk
  have hob : (Value.slice A ks.length cap).ownBlock = some j := by
    cases A with
    | none => exact absurd hj AtB.none
    | some a => exact hj
  exact ⟨hok j hob, hlt j hob⟩
theorem pt_len : ∀ f, (∀ deep l k r, pt f deep l = some (k, r) → r.length < l.length) ∧ (∀ deep l ks r, pts f deep l = some (ks, r) → r.length < l.length)
  | 0 => ⟨fun _ _ _ _ h => by simp [pt] at h, fun _ _ _ _ h => by simp [pts] at h⟩
  | f + 1 => by
    obtain ⟨h1, h2⟩ := pt_len f
    refine ⟨fun deep l k r h => ?_, fun deep l ks r h => ?_⟩
    · cases l with
      | nil => simp [pt] at h
      | cons c s =>
        unfold pt at h
        split at h
        · cases h
        · split at h
          · cases h; simp
          · split at h
            · cases h; simp
            · split at h
              · obtain ⟨p, hp, e⟩ := Option.map_eq_some_iff.1 h
                cases e
                have := h1 _ _ p.1 p.2 hp
                simp; omega
              · split at h
                · obtain ⟨p, hp, e⟩ := Option.map_eq_some_iff.1 h
                  cases e
                  have := h2 _ _ p.1 p.2 hp
                  simp; omega
                · cases h
    · cases l with
      | nil => simp [pts] at h
      | cons c s =>
        unfold pts at h
        split at h
        · cases h; simp
        · split at h
          · cases h
          · next p hp =>
            obtain ⟨q, hq, e⟩ := Option.map_eq_some_iff.1 h
            cases e
            have := h1 _ _ p.1 p.2 hp
            have := h2 _ _ q.1 q.2 hq
            simp at *; omega
theorem pt_fuel : ∀ f g, (∀ deep l, 2 * l.length + 1 ≤ f → 2 * l.length + 1 ≤ g → pt f deep l = pt g deep l) ∧ (∀ deep l, 2 * l.length + 2 ≤ f → 2 * l.length + 2 ≤ g → pts f deep l = pts g deep l)
  | 0, g => ⟨fun _ _ h => by omega, fun _ _ h => by omega⟩
  | f + 1, 0 => ⟨fun _ _ _ h => by omega, fun _ _ _ h => by omega⟩
  | f + 1, g + 1 => by
    obtain ⟨h1, h2⟩ := pt_fuel f g
    refine ⟨fun deep l hf hg => ?_, fun deep l hf hg => ?_⟩
    · cases l with
      | nil => simp [pt]
      | cons c s =>
        simp only [List.length_cons] at hf hg
        unfold pt
        rw [h1 (deep + 1) s (by omega) (by omega), h2 (deep + 1) s (by omega) (by omega)]
    · cases l with
      | nil => simp [pts]
      | cons c s =>
        simp only [List.length_cons] at hf hg
        unfold pts
        rw [h1 deep (c :: s) (by simp; omega) (by simp; omega)]
        split
        · rfl
        · cases hp : pt g deep (c :: s) with
          | none => rfl
          | some p =>
            have := (pt_len g).1 deep (c :: s) p.1 p.2 hp
            simp only [List.length_cons] at this
            simp only
            rw [h2 deep p.2 (by omega) (by omega)]
end Go.Proofs.Ytnkpleggmiamdaa.Mo
