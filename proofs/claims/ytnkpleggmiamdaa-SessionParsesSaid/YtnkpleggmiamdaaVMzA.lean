/- Kept of the text MzA: what is reached (wip/tools/prune.py). -/
import Derived.Test.YtnkpleggmiamdaaVMoZ
import Derived.Test.YtnkpleggmiamdaaVPrC
namespace Go.Proofs.Ytnkpleggmiamdaa.Mo
open Go.RowKit Go.Maps Go.Proofs.YtnkpleggmiamdaaW.PrintWords Go.Proofs.YtnkpleggmiamdaaW.PrintLast Go.Proofs.YtnkpleggmiamdaaW.PrintMore
open Go.Proofs.Ytnkpleggmiamdaa.PSessionParses
set_option linter.unusedVariables false
set_option linter.unusedSimpArgs false
def uN (n : Int) : Int := IntKind.u64.wrap n
theorem uN_range (n : Int) : 0 ≤ uN n ∧ uN n < 18446744073709551616 := by
  simp [uN, IntKind.wrap, IntKind.signed, IntKind.bits]
  omega
theorem uN_id {n : Int} (h0 : 0 ≤ n) (h1 : n < 18446744073709551616) : uN n = n := u64_big h0 h1
def numV (n : Int) : S105 := ⟨uN n, [], []⟩
theorem wf_num (n : Int) : WfS (numV n) := .mk (uN_range n).1 (uN_range n).2 (fun x hx => by simp [numV] at hx)
theorem C33_new (w : World) (ps : List S105) (inner : List Value) (hr : Reps (k105.K w) 3 ps inner) (hm : ps.length ≤ 9223372036854775807) : k105.C (w.alloc (.cells inner.toArray 105)) (some ⟨w.heap.size, 0, none⟩) ps.length ps := by
  have h := OwnRow.lit (e := 105) w w.heap.size hr (Nat.le_refl _) hm
  obtain ⟨A, c, he, _, hC⟩ := h.reads
  cases he
  exact hC.imp_ (Below.refl _ _) (fun p c hp => k105.K_below ((Below.refl _ _).alloc (Nat.le_refl _) _) hp)
theorem reps33 {w : World} {x : S105} {cs : List Value} (h : k105.K w x cs) : Reps (k105.K w) 3 [x] cs := by
  have := Reps.snoc (Reps.none (k105.K w) 3) h (k105.K_len h)
  simpa using this
theorem put_ok {l : List UInt8} {vs : List S105} {k : Sh} {out : List Int} {w : World} {e : Ending} {w' : World} (h : PutTopQ l vs w e w') (hp : parseF l = some k) (hh : vs.all (hasS k) = true) (ho : (vs.map (putS k)).flatten = out) :
    Below w.heap.size w w' ∧ ∃ A c, e = .returned (.tuple #[.slice A out.length c, .int .i64 0]) ∧ out.length ≤ c ∧ (Kd.int .u8).C w' A out.length out := by
  obtain ⟨hB, h | ⟨k', h1, h2, h3⟩ | ⟨k', v0, h1, h2, h3, h4⟩⟩ := h
  · rw [h.1] at hp; cases hp
  · rw [hp] at h1; cases h1; rw [hh] at h2; cases h2
  · rw [hp] at h1; cases h1
    rw [ho] at h4
    obtain ⟨A, c, rfl, hc, hC⟩ := Kd.R_reads h4
    exact ⟨hB, A, c, h3, hc, hC⟩
def Wfl (f : List Int → Int → S105 × List Int × Int) : Prop := ∀ bs e, Byt bs → WfS (f bs e).1
theorem rep_wf {f : List Int → Int → S105 × List Int × Int} (hf : Wfl f) (hl : Lft f) : ∀ n bs e, Byt bs → ∀ x ∈ (repT f n bs e).1, WfS x
  | 0, bs, e, h => fun x hx => by simp [repT] at hx
  | n + 1, bs, e, h => fun x hx => by
    unfold repT at hx
    split at hx
    · rcases List.mem_cons.1 hx with rfl | hx
      · exact hf bs e h
      · exact rep_wf hf hl n _ _ (hl bs e h).1 x hx
    · simp only [List.mem_singleton] at hx
      subst hx
      exact hf bs e h
mutual
theorem take_wf : ∀ k : Sh, Wfl (takeS k)
  | .mk c ks => fun bs e h => by
    have hn := numS_range e h
    have hL := takeL_wf ks bs e h
    have hA := takeA_wf ks bs e h
    rw [take_eq]
    split
    · exact .mk hn.1 hn.2.1 (fun x hx => by simp at hx)
    · split
      · exact .mk (by show (0 : Int) ≤ 0; decide) (by show (0 : Int) < _; decide) (fun x hx => by simp at hx)
      · split
        · exact .mk (by show (0 : Int) ≤ 0; decide) (by show (0 : Int) < _; decide) hA
        · exact .mk (by show (0 : Int) ≤ 0; decide) (by show (0 : Int) < _; decide) hL
theorem takeA_wf : ∀ (ks : List Sh) (bs : List Int) (e : Int), Byt bs → ∀ x ∈ (takeA ks bs e).1, WfS x
  | [], bs, e, h => fun x hx => by unfold takeA at hx; simp at hx
  | k :: ks, bs, e, h => by
    have hc := cntS_range (sm := someS k) e h
    rw [takeA_cons]
    exact rep_wf (take_wf k) (take_left k) _ _ _ hc.2.2.2.2.1
theorem takeL_wf : ∀ (ks : List Sh) (bs : List Int) (e : Int), Byt bs → ∀ x ∈ (takeL ks bs e).1, WfS x
  | [], bs, e, h => fun x hx => by rw [takeL_nil] at hx; simp at hx
  | k :: ks, bs, e, h => by
    have h1 := take_left k bs e h
    rw [takeL_cons]
    intro x hx
    rcases List.mem_cons.1 hx with rfl | hx
    · exact take_wf k bs e h
    · exact takeL_wf ks _ _ h1.1 x hx
end
end Go.Proofs.Ytnkpleggmiamdaa.Mo
