/- session: Once with an answer of its own, whole; Drop; what SessionApart says of two tables. -/
import Derived.Test.YtnkpleggmiamdaaSeC
namespace Go.Proofs.Ytnkpleggmiamdaa.Se
open Go.RowKit Go.Maps Go.Proofs.YtnkpleggmiamdaaW.PrintWords Go.Proofs.YtnkpleggmiamdaaW.PrintLast Go.Proofs.YtnkpleggmiamdaaW.PrintMore
open Go.Proofs.Ytnkpleggmiamdaa.PSessionOnce Go.Proofs.Ytnkpleggmiamdaa.Mp
set_option linter.unusedVariables false
set_option linter.unusedSimpArgs false

def codeF (V : View) (c s : Int) : Int := if rightF c s = true then (if s < (lastV V c).1 then 100 else 0) else 2
def ansF (V : View) (c s : Int) (bs : List Int) : List Int := if rightF c s = true then (if s < (lastV V c).1 then [] else if s = (lastV V c).1 then (lastV V c).2 else bs) else []
def onceF (V : View) (c s : Int) (bs : List Int) : View := if rightF c s = true ∧ (lastV V c).1 < s then aput c (s, bs) V else V

theorem Answer.none (w w' : World) : Answer w w' (.slice none 0 0) [] none := ⟨⟨0, rfl, Bs.nil _⟩, fun k hk => absurd hk AtB.none⟩

theorem once_all (ok : Nat → Prop) (p bm : Nat) (V : View) (c s : Int) (b : Nat) (str : ByteArray) (w : World) (h : TableIs w ok p bm V) (hw : (Lit.int .i64 c).wf = true) (hob : ¬ ok bm)
    (hb : w.heap[b]? = some (.cells #[.string str] 9 (0, 0))) (hl : str.size ≤ 140737488355328) :
    Calls Try.prog 16 #[.pointer (some ⟨p, 0, none⟩), .int .i64 c, .int .i64 s, .func (.func 59) #[] #[.pointer (some ⟨b, 0, none⟩)]] w fun e w' => ∃ v A, e = .returned (.tuple #[v, .int .i64 (codeF V c s)]) ∧ Answer w w' v (ansF V c s (bytesOf str)) A ∧
      TableIs w' (fun k => (ok k ∨ w.heap.size ≤ k) ∧ ¬ AtB A k) p bm (onceF V c s (bytesOf str)) ∧ FrS (fun k => k = bm) w w' := by
  unfold codeF ansF onceF
  cases hr : rightF c s with
  | false =>
    refine (once_arg ok p bm V c s _ w h hr).mono ?_
    rintro e w' ⟨rfl, hB⟩
    exact ⟨_, none, rfl, Answer.none w w', by simpa using (h.below hB).weak (fun k hk _ => ⟨.inl hk, AtB.none⟩), FrS.of_below hB⟩
  | true =>
    rcases Int.lt_trichotomy s (lastV V c).1 with hs | hs | hs
    · refine (once_seq ok p bm V c s _ w h hr hs).mono ?_
      rintro e w' ⟨rfl, hB⟩
      refine ⟨.slice none 0 0, none, by simp [hs], by simpa [hs] using Answer.none w w', ?_, FrS.of_below hB⟩
      rw [if_neg (by omega)]
      exact (h.below hB).weak (fun k hk _ => ⟨.inl hk, AtB.none⟩)
    · refine (once_same ok p bm V c s _ w h hr hs).mono ?_
      rintro e w' ⟨v, A, rfl, hA, hB⟩
      refine ⟨v, A, by simp [hs], by simpa [hs] using hA, ?_, FrS.of_below hB⟩
      rw [if_neg (by omega)]
      have := h.frS (S := fun _ => False) (ok' := fun k => ok k ∧ k < w.heap.size) (FrS.of_below hB) (fun h => h) (fun h => h) (fun _ _ _ h => h) (fun k h1 h2 => ⟨h1, h2⟩)
      exact this.weak (fun k hk _ => ⟨.inl hk.1, fun e => by have := (hA.new k e).1; omega⟩)
    · refine (once_new_ans ok p bm V c s b str w h hr hs hw hob hb hl).mono ?_
      rintro e w' ⟨v, A, rfl, hA, hT, hF⟩
      refine ⟨v, A, ?_, ?_, ?_, hF⟩
      · rw [if_pos rfl, if_neg (by omega)]
      · rw [if_pos rfl, if_neg (by omega), if_neg (by omega)]; exact hA
      · rw [if_pos ⟨rfl, hs⟩]; exact hT

theorem mem_del {β : Type} {k : Int} : ∀ {l : List (Int × β)} {x : Int × β}, x ∈ adel k l → x ∈ l
  | [], x, h => by simp [adel] at h
  | p :: l, x, h => by
    simp only [adel] at h
    split at h
    · exact List.mem_cons_of_mem _ h
    · rcases List.mem_cons.1 h with h | h
      · exact List.mem_cons.2 (.inl h)
      · exact List.mem_cons_of_mem _ (mem_del h)

set_option maxRecDepth 100000 in
theorem drop_calls (ok : Nat → Prop) (p bm b : Nat) (V : View) (c : Int) (w : World) (h : TableIs w ok p bm V) (hb : w.heap[b]? = some (.cells #[.int .i64 c] 3 (0, 0))) (hob : ¬ ok bm) :
    Calls Try.prog 19 #[.pointer (some ⟨p, 0, none⟩), .slice (some ⟨b, 0, none⟩) 1 1] w fun e w' => e = .returned (.tuple #[]) ∧ TableIs w' ok p bm (adel c V) ∧ FrS (fun k => k = bm) w w' := by
  obtain ⟨M, rfl, T⟩ := h
  have c0 : w.cell? ⟨p, 0, none⟩ = some (.map (some bm)) := (blk_cell T.blk 0).trans rfl
  have cb : w.cell? ⟨b, 0, none⟩ = some (.int .i64 c) := (blk_cell hb 0).trans rfl
  obtain ⟨w', hu, HM, HF, hz⟩ := run_delete (at1 := 3) (tt := 0) Try.underlying96 Try.underlying3 T.map c
  have HT := Aside0.mk T
  have HM' := Aside0.mk HM
  have HF' := Aside0.mk HF
  clear T HM HF hz hb
  go_enter Try.func19, Try.ntmps19
  go_wp2_with fail
  go_loopw [5, 8] (fun v5 v8 wr => v8 = .int .i64 0 ∧ wr = w ∨ v8 = .int .i64 1 ∧ wr = w') (fun _ v8 _ => 1 - (intOf v8).toNat)
  case atStart => exact .inl ⟨rfl, by trivial⟩
  case round =>
    rcases hrel with ⟨rfl, rfl⟩ | ⟨rfl, rfl⟩
    · go_wp2_with fail
      go_roundw
      case rel => exact .inr ⟨rfl, by trivial⟩
      case measure => simp [intOf]
    · go_wp2_with fail
      go_end0
      have hF := FrS.of_fr1 (S := fun k => k = bm) HF'.out rfl
      refine ⟨rfl, ⟨adel c M, by unfold view; rw [adel_map], hF.blk HT.out.blk HT.out.ne, by rw [← adel_map]; exact HM'.out, fun x hx => ?_⟩, hF⟩
      exact (HT.out.recs x (mem_del hx)).frS hF (fun k h _ e => hob (e ▸ h)) (fun k h _ => h)

/-- What SessionApart keeps of the memory: two tables. -/
structure Two (w wr : World) (p1 b1 p2 b2 : Nat) (V1 V2 : View) : Prop where
  t1 : TableIs wr (fun x => x ≠ b1 ∧ x ≠ b2) p1 b1 V1
  t2 : TableIs wr (fun x => x ≠ b1 ∧ x ≠ b2) p2 b2 V2
  ne : p1 ≠ b1 ∧ p1 ≠ b2 ∧ p2 ≠ b1 ∧ p2 ≠ b2 ∧ b1 ≠ b2
  new : w.heap.size ≤ b1 ∧ w.heap.size ≤ b2
  lt : b1 < wr.heap.size ∧ b2 < wr.heap.size
  below : Below w.heap.size w wr
theorem Two.next {w wr w1 : World} {p1 b1 p2 b2 : Nat} {V1 V2 : View} (h : Two w wr p1 b1 p2 b2 V1 V2) (hb : Below wr.heap.size wr w1) : Two w w1 p1 b1 p2 b2 V1 V2 :=
  ⟨h.t1.below hb, h.t2.below hb, h.ne, h.new, by have := h.lt; have := hb.size; omega, h.below.trans (hb.mono h.below.size)⟩
theorem Two.on1 {w wr w1 : World} {p1 b1 p2 b2 : Nat} {V1 V2 V1' : View} {ok' : Nat → Prop} (h : Two w wr p1 b1 p2 b2 V1 V2) (hf : FrS (fun k => k = b1) wr w1) (ht : TableIs w1 ok' p1 b1 V1') (hok : ∀ k, ok' k → k < w1.heap.size → k ≠ b1 ∧ k ≠ b2) :
    Two w w1 p1 b1 p2 b2 V1' V2 :=
  ⟨ht.weak hok, h.t2.frS hf (by have := h.ne; omega) (by have := h.ne; omega) (fun k h _ => h.1) (fun k h _ => h), h.ne, h.new, by have := h.lt; have := hf.size; omega,
    h.below.trans (hf.to_below (fun k e => by have := h.new; omega) h.below.size)⟩
theorem Two.on2 {w wr w1 : World} {p1 b1 p2 b2 : Nat} {V1 V2 V2' : View} {ok' : Nat → Prop} (h : Two w wr p1 b1 p2 b2 V1 V2) (hf : FrS (fun k => k = b2) wr w1) (ht : TableIs w1 ok' p2 b2 V2') (hok : ∀ k, ok' k → k < w1.heap.size → k ≠ b1 ∧ k ≠ b2) :
    Two w w1 p1 b1 p2 b2 V1 V2' :=
  ⟨h.t1.frS hf (by have := h.ne; omega) (by have := h.ne; omega) (fun k h _ => h.2) (fun k h _ => h), ht.weak hok, h.ne, h.new, by have := h.lt; have := hf.size; omega,
    h.below.trans (hf.to_below (fun k e => by have := h.new; omega) h.below.size)⟩

/-- What the law says: the client's own table tells of it what the common one tells, and nothing of anyone else. -/
structure Apart (me : Int) (V1 V2 : View) : Prop where
  same : lastV V1 me = lastV V2 me
  nd : (V1.map (·.1)).Nodup
  own : V2 = [] ∨ ∃ r, V2 = [(me, r)]
theorem Apart.len {me : Int} {V1 V2 : View} (h : Apart me V1 V2) : V2.length ≤ 1 := by
  rcases h.own with rfl | ⟨r, rfl⟩ <;> simp
theorem lastV_other {c me : Int} (h : me ≠ c) (v : Int × List Int) (V : View) : lastV (aput c v V) me = lastV V me := by
  unfold lastV; rw [alook_put_other h]
theorem lastV_del_other {c me : Int} (h : me ≠ c) (V : View) : lastV (adel c V) me = lastV V me := by
  unfold lastV; rw [alook_del_other h]
theorem Apart.once_other {me c s : Int} {V1 V2 : View} (h : Apart me V1 V2) (hc : c ≠ me) (bs : List Int) : Apart me (onceF V1 c s bs) V2 := by
  unfold onceF
  split
  · exact ⟨by rw [lastV_other (Ne.symm hc)]; exact h.same, nodup_put h.nd, h.own⟩
  · exact h
theorem Apart.once_me {me s : Int} {V1 V2 : View} (h : Apart me V1 V2) (bs : List Int) : Apart me (onceF V1 me s bs) (onceF V2 me s bs) ∧ codeF V1 me s = codeF V2 me s ∧ ansF V1 me s bs = ansF V2 me s bs := by
  unfold onceF codeF ansF
  rw [h.same]
  refine ⟨?_, rfl, rfl⟩
  split
  · refine ⟨by rw [lastV_put, lastV_put], nodup_put h.nd, .inr ⟨(s, bs), ?_⟩⟩
    rcases h.own with rfl | ⟨r, rfl⟩ <;> simp [aput]
  · exact h
theorem Apart.drop_other {me c : Int} {V1 V2 : View} (h : Apart me V1 V2) (hc : c ≠ me) : Apart me (adel c V1) V2 :=
  ⟨by rw [lastV_del_other (Ne.symm hc)]; exact h.same, nodup_del h.nd, h.own⟩
theorem Apart.drop_me {me : Int} {V1 V2 : View} (h : Apart me V1 V2) : Apart me (adel me V1) (adel me V2) := by
  have e : adel me V2 = [] := by rcases h.own with rfl | ⟨r, rfl⟩ <;> simp [adel]
  refine ⟨?_, nodup_del h.nd, .inl e⟩
  rw [e]
  unfold lastV
  rw [alook_del_same h.nd]
  rfl

end Go.Proofs.Ytnkpleggmiamdaa.Se
