/- Kept of the text Sl: what is reached (wip/tools/prune.py). -/
import Derived.Test.YtnkpleggmiamdaaVMp
import Derived.Lib.SliceRun
import Derived.Laws.BytesArg
import Derived.Laws.BytesString
namespace Go.Proofs.Ytnkpleggmiamdaa.Mp
open Go.RowKit Go.Maps Go.Proofs.YtnkpleggmiamdaaW.PrintWords
set_option linter.unusedVariables false
set_option linter.unusedSimpArgs false
structure FrS (S : Nat → Prop) (w w' : World) : Prop where
  os : w'.os = w.os
  tape : w'.tape = w.tape
  output : w'.output = w.output
  size : w.heap.size ≤ w'.heap.size
  block : ∀ k, k < w.heap.size → ¬ S k → w'.heap[k]? = w.heap[k]?
section
variable {S S' : Nat → Prop} {w w1 w2 : World}
theorem FrS.refl (S : Nat → Prop) (w : World) : FrS S w w := ⟨rfl, rfl, rfl, Nat.le_refl _, fun _ _ _ => rfl⟩
theorem FrS.trans (h : FrS S w w1) (hb : FrS S w1 w2) : FrS S w w2 :=
  ⟨hb.os.trans h.os, hb.tape.trans h.tape, hb.output.trans h.output, Nat.le_trans h.size hb.size, fun k hk hn => (hb.block k (by have := h.size; omega) hn).trans (h.block k hk hn)⟩
theorem FrS.mono (h : FrS S w w1) (hs : ∀ k, k < w.heap.size → S k → S' k) : FrS S' w w1 := ⟨h.os, h.tape, h.output, h.size, fun k hk hn => h.block k hk (fun e => hn (hs k hk e))⟩
theorem FrS.of_below (hb : Below w.heap.size w w1) : FrS S w w1 := ⟨hb.os, hb.tape, hb.output, hb.size, fun k hk _ => hb.block k hk⟩
theorem FrS.of_fr1 {b : Nat} (h : Fr1 w w1 b) (hs : S b) : FrS S w w1 := ⟨h.os, h.tape, h.output, h.size, fun k hk hn => h.block k hk (fun e => hn (e ▸ hs))⟩
theorem FrS.of_new (hb : Below w.heap.size w w1) (h : FrS S w1 w2) : FrS S w w2 := (FrS.of_below hb).trans h
theorem FrS.blk {g : Nat} {o : Obj} (h : FrS S w w1) (hg : w.heap[g]? = some o) (hn : ¬ S g) : w1.heap[g]? = some o := (h.block g (blk_lt hg) hn).trans hg
theorem FrS.map {b : Nat} {l : List (Int × Value)} (h : FrS S w w1) (hm : MapIs w b l) (hn : ¬ S b) : MapIs w1 b l := hm.move (h.block b hm.lt hn)
theorem FrS.to_below {B : Nat} (h : FrS S w w1) (hB : ∀ k, S k → B ≤ k) (hw : B ≤ w.heap.size) : Below B w w1 := ⟨h.os, h.tape, h.output, h.size, fun k hk => h.block k (by omega) (fun e => by have := hB k e; omega)⟩
theorem FrS.alloc (h : FrS S w w1) (o : Obj) : FrS S w (w1.alloc o) := h.trans (FrS.of_below ((Below.refl _ _).alloc (Nat.le_refl _) _))
theorem FrS.drew (h : FrS S w w1) : FrS S w w1.drew := h.trans (FrS.of_below (Below.refl _ _).drew)
theorem FrS.drewN (h : FrS S w w1) (n : Nat) : FrS S w (w1.drewN n) := h.trans (FrS.of_below (pw_below_drewN (Below.refl _ _) n))
theorem FrS.set (h : FrS S w w1) {p : Addr} (hp : p.block < w.heap.size → S p.block) (u : Value) : FrS S w (w1.setCell p u) :=
  ⟨h.os, h.tape, h.output, by have := h.size; simpa [World.setCell] using this, fun k hk hn => (Below.heap_setCell w1 p u k (fun e => hn (e ▸ hp (e ▸ hk)))).trans (h.block k hk hn)⟩
theorem FrS.set1 (w : World) (b j : Nat) (u : Value) : FrS (fun k => k = b) w (w.setCell ⟨b, j, none⟩ u) := (FrS.refl (fun k => k = b) w).set (p := ⟨b, j, none⟩) (fun _ => rfl) u
end
def AtB (A : Option Addr) (k : Nat) : Prop := A.map (·.block) = some k
theorem AtB.some (a : Addr) : AtB (some a) a.block := rfl
theorem AtB.none {k : Nat} : ¬ AtB none k := by simp [AtB]
theorem C_move {d : Kd Int} {k : IntKind} {A : Option Addr} {n : Nat} {xs : List Int} {w w1 : World} (h : (Kd.int k).C w A n xs) (hm : ∀ b, AtB A b → b < w.heap.size → w1.heap[b]? = w.heap[b]?) : (Kd.int k).C w1 A n xs := by
  refine ⟨h.1, h.2.1, fun hn => ?_⟩
  obtain ⟨ad, rfl, hc⟩ := h.2.2 hn
  refine ⟨ad, rfl, fun j p hp => ?_⟩
  obtain ⟨c, hl, hK, hcell⟩ := hc j p hp
  refine ⟨c, hl, hK, fun i u hu => ?_⟩
  have h1 := hcell i u hu
  have hlt := cell_lt h1
  rw [add_block] at hlt
  rw [← h1]
  exact World.cell?_of_block (w := w) (by rw [add_block]; exact hm _ (AtB.some ad) hlt)
theorem run_str {P : Program} {src dst e : TypeId} (hs : P.underlying src = some (.slice e)) (he : P.underlying e = some (.int .u8)) (hd : P.underlying dst = some .string) {w : World} {A : Option Addr} {n : Nat} {xs : List Int} (h : (Kd.int .u8).C w A n xs) (c : Nat) :
    (convert src dst (.slice A n c)).run P w = .ok (.string (strOfNums xs)) w := by
  cases A with
  | none =>
    obtain rfl : xs = [] := by
      rcases xs with _ | ⟨x, xs⟩
      · rfl
      · have := h.1; obtain ⟨ad, e, _⟩ := h.2.2 (by simp at this; omega); cases e
    exact run_convert_bytes_nil w src e hs he n c dst hd
  | some ad =>
    have hl : (loadCells ad n).run P w = .ok (xs.map (Value.int .u8)).toArray w := by
      have := run_loadCells_list (P := P) w ad (xs.map (Value.int .u8)) (fun j v hj => by
        have hjl : j < xs.length := by simpa using (List.getElem?_eq_some_iff.1 hj).1
        have hlen := h.1
        obtain ⟨ad', e', hc⟩ := Kd.at_int h (j : Int) (by omega) (by omega)
        cases e'
        rw [Int.toNat_natCast] at hc
        rw [hc]
        rw [List.getElem?_map, List.getElem?_eq_getElem hjl] at hj
        simp only [Option.map_some, Option.some.injEq] at hj
        rw [← hj]
        simp [rd, List.getElem?_eq_getElem hjl])
      have hlen := h.1
      rw [List.length_map, hlen] at this
      exact this
    rw [run_convert_bytes_string w src dst e _ n c hs he hd, run_bytesToString w _ n c xs hl, foldl_push_bytes]
    simp [strOfNums, ByteArray.empty, ByteArray.emptyWithCapacity]
    rfl
end Go.Proofs.Ytnkpleggmiamdaa.Mp
