/- Kept of the text SeA: what is reached (wip/tools/prune.py). -/
import Derived.Test.YtnkpleggmiamdaaVG6
import Derived.Test.YtnkpleggmiamdaaVSl
import Derived.StillTailTactics
namespace Go.Proofs.Ytnkpleggmiamdaa.Se
open Go.RowKit Go.Maps Go.Proofs.YtnkpleggmiamdaaW.PrintWords Go.Proofs.YtnkpleggmiamdaaW.PrintLast Go.Proofs.YtnkpleggmiamdaaW.PrintMore
open Go.Proofs.Ytnkpleggmiamdaa.PSessionOnce Go.Proofs.Ytnkpleggmiamdaa.Mp
set_option linter.unusedVariables false
set_option linter.unusedSimpArgs false
theorem info5 : (Try.prog.info? 5).map (fun i => (i.zero, i.size, i.bytes)) = some (some (.int .u8 0), 1, 1) := by kernel_rfl
structure Bs (w : World) (A : Option Addr) (c : Nat) (bs : List Int) : Prop where
  row : (Kd.int .u8).C w A bs.length bs
  cap : bs.length ≤ c
  len : bs.length ≤ 140737488355328
theorem Bs.move {w w1 : World} {A : Option Addr} {c : Nat} {bs : List Int} (h : Bs w A c bs) (hm : ∀ b, AtB A b → b < w.heap.size → w1.heap[b]? = w.heap[b]?) : Bs w1 A c bs := ⟨C_move (d := Kd.int .u8) h.row hm, h.cap, h.len⟩
theorem Bs.below {w w1 : World} {A : Option Addr} {c : Nat} {bs : List Int} (h : Bs w A c bs) (hb : Below w.heap.size w w1) : Bs w1 A c bs := h.move (fun b _ hlt => hb.block b hlt)
theorem Bs.frS {S : Nat → Prop} {w w1 : World} {A : Option Addr} {c : Nat} {bs : List Int} (h : Bs w A c bs) (hb : FrS S w w1) (hn : ∀ b, AtB A b → ¬ S b) : Bs w1 A c bs := h.move (fun b hb' hlt => hb.block b hlt (hn b hb'))
theorem Bs.nil (w : World) : Bs w none 0 [] := ⟨Kd.C_nil _ _, by simp, by simp⟩
set_option maxRecDepth 100000 in
theorem clone_calls (A : Option Addr) (c : Nat) (bs : List Int) (w : World) (h : Bs w A c bs) :
    Calls Try.prog 58 #[.slice A bs.length c] w fun e w' => ∃ A' c', e = .returned (.slice A' bs.length c') ∧ Bs w' A' c' bs ∧ (∀ k, AtB A' k → w.heap.size ≤ k ∧ k < w'.heap.size) ∧ Below w.heap.size w w' := by
  cases A with
  | none =>
    obtain rfl : bs = [] := by
      rcases bs with _ | ⟨x, bs⟩
      · rfl
      · obtain ⟨ad, e, _⟩ := h.row.2.2 (by simp); cases e
    have he := Lib.run_eql_slice_nil w 26 5 none 0 c 0 0 Try.underlying26
    go_enter Try.func58, Try.ntmps58
    go_wp2
    go_ret
    exact ⟨none, 0, rfl, Bs.nil _, fun k hk => absurd hk AtB.none, Below.refl _ _⟩
  | some a =>
    have he := Lib.run_eql_slice_nil w 26 5 (some a) bs.length c 0 0 Try.underlying26
    have H := Aside0.mk h
    clear h
    go_enter Try.func58, Try.ntmps58
    have hO : (Kd.int .u8).R 5 (w.alloc (.cells #[] 5)) w.heap.size (fun k => k = w.heap.size ∨ w.heap.size < k) (.slice (some ⟨w.heap.size, 0, none⟩) 0 0) [] :=
      ⟨fun k hk => by simp [Value.ownBlock] at hk; exact .inl hk.symm, OwnRow.lit (R := _) (e := 5) (size := 1) (ps := ([] : List Int)) (inner := []) w w.heap.size (Reps.none _ _) (Nat.le_refl _) (by simp)⟩
    have HO := Aside0.mk hO
    clear hO
    go_wp2_with ((with_reducible refine gate_builtin (b := .append) (xs := #[.tmp 5, .tmp 6]) rfl ?_); at_builtin; refine Kd.R_append_rows (Kd.int .u8) (w0 := w) w.heap.size rfl (.tmp 5) (.tmp 6) 26 5 (.int .u8 0) 1 rfl Try.underlying26 info5 rfl (by decide) (by decide) (.slice (some ⟨w.heap.size, 0, none⟩) 0 0) [] bs (some a) bs.length c (fun k => k = w.heap.size ∨ w.heap.size < k) (fun _ => False) rfl rfl ?aO ?aR (fun _ _ h => h) (fun _ hk => hk.elim) ?aF ?aB ?aS ?aL ?_; (case aO => exact HO.out); (case aR => exact Kd.C_alloc H.out.row _); (case aF => (intro q hq; simp at hq; exact .inr (by omega))); (case aB => exact (Below.refl _ _).alloc (Nat.le_refl _) _); (case aS => simp); (case aL => have := H.out.len; simp; omega); intro v5 w5 ho hb hg hat; have HO5 := Aside0.mk ho; have HB5 := Aside0.mk hb; have HAT := Aside0.mk hat; clear ho hb hg hat)
    go_ret
    obtain ⟨A', c', rfl, hl, hC⟩ := Kd.R_reads HO5.out
    rw [List.nil_append] at hC hl ⊢
    refine ⟨A', c', rfl, ⟨hC, hl, H.out.len⟩, fun k hk => ?_, HB5.out⟩
    have hob : (Value.slice A' bs.length c').ownBlock = some k := by
      cases A' with
      | none => exact absurd hk AtB.none
      | some a' => exact hk
    have h1 := HO5.out.1 k (by simpa using hob)
    obtain ⟨inner, hown, _⟩ := HO5.out.2
    have h2 := own_lt hown k (by simpa using hob)
    exact ⟨by omega, h2⟩
theorem new_calls (w : World) : Calls Try.prog 15 #[] w fun e w' => e = .returned (.pointer (some ⟨w.heap.size + 1, 0, none⟩)) ∧ w' = (w.alloc (.map #[] 0)).alloc (.cells #[.map (some w.heap.size)] 98) := by
  have hmm := @run_makeMap Try.prog
  go_enter Try.func15, Try.ntmps15
  go_wp2
  go_ret
  exact ⟨rfl, rfl⟩
structure Rec where
  seq : Int
  at_ : Option Addr
  cap : Nat
  ans : List Int
def r0 : Rec := ⟨0, none, 0, []⟩
def encR (r : Rec) : Value := .agg #[.int .i64 r.seq, .slice r.at_ r.ans.length r.cap]
structure RecOk (w : World) (ok : Nat → Prop) (r : Rec) : Prop where
  bs : Bs w r.at_ r.cap r.ans
  own : ∀ k, AtB r.at_ k → ok k ∧ k < w.heap.size
abbrev View := List (Int × (Int × List Int))
def view (M : List (Int × Rec)) : View := amap (fun r => (r.seq, r.ans)) M
structure TabIs (w : World) (ok : Nat → Prop) (p bm : Nat) (M : List (Int × Rec)) : Prop where
  blk : w.heap[p]? = some (.cells #[.map (some bm)] 98 (0, 0))
  map : MapIs w bm (amap encR M)
  recs : ∀ x ∈ M, RecOk w ok x.2
def TableIs (w : World) (ok : Nat → Prop) (p bm : Nat) (V : View) : Prop := ∃ M, view M = V ∧ TabIs w ok p bm M
theorem RecOk.frS {S : Nat → Prop} {w w1 : World} {ok ok' : Nat → Prop} {r : Rec} (h : RecOk w ok r) (hf : FrS S w w1) (hs : ∀ k, ok k → k < w.heap.size → ¬ S k) (hok : ∀ k, ok k → k < w.heap.size → ok' k) : RecOk w1 ok' r :=
  ⟨h.bs.frS hf (fun b hb => hs b (h.own b hb).1 (h.own b hb).2), fun k hk => ⟨hok k (h.own k hk).1 (h.own k hk).2, Nat.lt_of_lt_of_le (h.own k hk).2 hf.size⟩⟩
theorem TabIs.frS {S : Nat → Prop} {w w1 : World} {ok ok' : Nat → Prop} {p bm : Nat} {M : List (Int × Rec)} (h : TabIs w ok p bm M) (hf : FrS S w w1) (hp : ¬ S p) (hb : ¬ S bm) (hs : ∀ k, ok k → k < w.heap.size → ¬ S k) (hok : ∀ k, ok k → k < w.heap.size → ok' k) : TabIs w1 ok' p bm M :=
  ⟨hf.blk h.blk hp, hf.map h.map hb, fun x hx => (h.recs x hx).frS hf hs hok⟩
theorem TabIs.below {w w1 : World} {ok : Nat → Prop} {p bm : Nat} {M : List (Int × Rec)} (h : TabIs w ok p bm M) (hb : Below w.heap.size w w1) : TabIs w1 ok p bm M :=
  h.frS (S := fun _ => False) (FrS.of_below hb) (fun h => h) (fun h => h) (fun _ _ _ h => h) (fun _ h _ => h)
theorem TableIs.frS {S : Nat → Prop} {w w1 : World} {ok ok' : Nat → Prop} {p bm : Nat} {V : View} (h : TableIs w ok p bm V) (hf : FrS S w w1) (hp : ¬ S p) (hb : ¬ S bm) (hs : ∀ k, ok k → k < w.heap.size → ¬ S k) (hok : ∀ k, ok k → k < w.heap.size → ok' k) : TableIs w1 ok' p bm V :=
  let ⟨M, e, t⟩ := h; ⟨M, e, t.frS hf hp hb hs hok⟩
theorem TableIs.below {w w1 : World} {ok : Nat → Prop} {p bm : Nat} {V : View} (h : TableIs w ok p bm V) (hb : Below w.heap.size w w1) : TableIs w1 ok p bm V := let ⟨M, e, t⟩ := h; ⟨M, e, t.below hb⟩
theorem TabIs.ne {w : World} {ok : Nat → Prop} {p bm : Nat} {M : List (Int × Rec)} (h : TabIs w ok p bm M) : p ≠ bm := by
  rintro rfl
  obtain ⟨es, c, hb, _⟩ := h.map.out
  rw [h.blk] at hb
  cases hb
theorem zeroR (w : World) : (zeroValue 100).run Try.prog w = .ok (encR r0) w := by kernel_rfl
def lastR (M : List (Int × Rec)) (c : Int) : Rec := (alook c M).getD r0
def lastV (V : View) (c : Int) : Int × List Int := (alook c V).getD (0, [])
theorem last_view {M : List (Int × Rec)} {V : View} (h : view M = V) (c : Int) : lastV V c = ((lastR M c).seq, (lastR M c).ans) := by
  subst h
  unfold lastV lastR view
  rw [alook_map]
  cases alook c M <;> rfl
theorem look_R (M : List (Int × Rec)) (c : Int) : (alook c (amap encR M)).getD (encR r0) = encR (lastR M c) := by
  unfold lastR
  rw [alook_map]; cases alook c M <;> rfl
theorem TabIs.last {w : World} {ok : Nat → Prop} {p bm : Nat} {M : List (Int × Rec)} (h : TabIs w ok p bm M) (c : Int) : RecOk w ok (lastR M c) := by
  unfold lastR
  cases e : alook c M with
  | none => exact ⟨Bs.nil _, fun k hk => absurd hk AtB.none⟩
  | some r => exact h.recs _ (mem_of_alook e)
def rightF (c s : Int) : Bool := decide (0 ≤ c ∧ c < 1099511627776 ∧ 1 ≤ s ∧ s < 1099511627776)
theorem right_at (c s : Int) : session_right.f c s = some (rightF c s) := by
  unfold session_right.f rightF
  repeat' split
  all_goals first | (simp; omega) | simp_all
set_option maxRecDepth 100000 in
theorem once_seq (ok : Nat → Prop) (p bm : Nat) (V : View) (c s : Int) (fv : Value) (w : World) (h : TableIs w ok p bm V) (hr : rightF c s = true) (hs : s < (lastV V c).1) :
    Calls Try.prog 16 #[.pointer (some ⟨p, 0, none⟩), .int .i64 c, .int .i64 s, fv] w fun e w' => e = .returned (.tuple #[.slice none 0 0, .int .i64 100]) ∧ Below w.heap.size w w' := by
  obtain ⟨M, e, T⟩ := h
  rw [last_view e] at hs
  clear e
  have c0 : w.cell? ⟨p, 0, none⟩ = some (.map (some bm)) := (blk_cell T.blk 0).trans rfl
  have hl := run_lookup Try.underlying96 Try.underlying3 (zeroR w) T.map c false
  simp only [look_R, Bool.false_eq_true, if_false] at hl
  have HR := Aside0.mk ((right_at c s).trans (by rw [hr]))
  generalize lastR M c = r at hl hs
  obtain ⟨rs, ra, rc, rb⟩ := r
  simp only [encR] at hl hs
  have HB := Aside0.mk ((Below.refl w.heap.size w).alloc (Nat.le_refl _) (.cells #[.int .i64 rs, .slice ra rb.length rc] 100))
  clear T hr
  go_enter Try.func16, Try.ntmps16
  go_wp2_with (go_at_call 57; refine (session_right.calls c s true _ HR.out).mono ?_; rintro e w' ⟨rfl, ⟨nd, rfl⟩⟩)
  go_ret2
  exact ⟨rfl, pw_below_drewN HB.out _⟩
structure Answer (w w' : World) (v : Value) (bs : List Int) (A : Option Addr) : Prop where
  ex : ∃ c, v = .slice A bs.length c ∧ Bs w' A c bs
  new : ∀ k, AtB A k → w.heap.size ≤ k ∧ k < w'.heap.size
set_option maxRecDepth 100000 in
theorem once_same (ok : Nat → Prop) (p bm : Nat) (V : View) (c s : Int) (fv : Value) (w : World) (h : TableIs w ok p bm V) (hr : rightF c s = true) (hs : s = (lastV V c).1) :
    Calls Try.prog 16 #[.pointer (some ⟨p, 0, none⟩), .int .i64 c, .int .i64 s, fv] w fun e w' => ∃ v A, e = .returned (.tuple #[v, .int .i64 0]) ∧ Answer w w' v (lastV V c).2 A ∧ Below w.heap.size w w' := by
  obtain ⟨M, e, T⟩ := h
  rw [last_view e] at hs ⊢
  clear e
  have c0 : w.cell? ⟨p, 0, none⟩ = some (.map (some bm)) := (blk_cell T.blk 0).trans rfl
  have hl := run_lookup Try.underlying96 Try.underlying3 (zeroR w) T.map c false
  simp only [look_R, Bool.false_eq_true, if_false] at hl
  have HR := Aside0.mk ((right_at c s).trans (by rw [hr]))
  have HT := T.last c
  generalize lastR M c = r at hl hs HT ⊢
  obtain ⟨rs, ra, rc, rb⟩ := r
  simp only [encR] at hl hs ⊢
  subst hs
  have HB := Aside0.mk ((Below.refl w.heap.size w).alloc (Nat.le_refl _) (.cells #[.int .i64 s, .slice ra rb.length rc] 100))
  have HBs := Aside0.mk HT.bs
  clear T hr HT
  go_enter Try.func16, Try.ntmps16
  go_wp2_with (first | (go_at_call 57; refine (session_right.calls c s true _ HR.out).mono ?_; rintro e w' ⟨rfl, ⟨nd, rfl⟩⟩) | (go_at_call 58; refine (clone_calls ra rc rb _ ((HBs.out.below HB.out).below (pw_below_drewN (Below.refl _ _) nd))).mono ?_; rintro e w' ⟨A', c', rfl, hb, hn, hB⟩; have HQ := Aside0.mk hb; have HN := Aside0.mk hn; have HBB := Aside0.mk hB; clear hb hn hB))
  go_ret2
  have hz : w.heap.size ≤ (World.drewN (w.alloc (.cells #[.int .i64 s, .slice ra rb.length rc] 100)) nd).heap.size := (pw_below_drewN HB.out nd).size
  exact ⟨_, A', rfl, ⟨⟨c', rfl, HQ.out⟩, fun k hk => ⟨Nat.le_trans hz (HN.out k hk).1, (HN.out k hk).2⟩⟩, (pw_below_drewN HB.out nd).trans (HBB.out.mono hz)⟩
theorem mem_put {β : Type} {k : Int} {v : β} : ∀ {l : List (Int × β)} {x : Int × β}, x ∈ aput k v l → x = (k, v) ∨ x ∈ l
  | [], x, h => by simp [aput] at h; exact .inl h
  | p :: l, x, h => by
    simp only [aput] at h
    split at h
    · rcases List.mem_cons.1 h with h | h
      · exact .inl h
      · exact .inr (List.mem_cons_of_mem _ h)
    · rcases List.mem_cons.1 h with h | h
      · exact .inr (by rw [h]; exact List.mem_cons_self)
      · rcases mem_put h with h | h
        · exact .inl h
        · exact .inr (List.mem_cons_of_mem _ h)
set_option maxHeartbeats 1000000 in
set_option maxRecDepth 100000 in
theorem once_new (ok : Nat → Prop) (p bm : Nat) (V : View) (c s : Int) (f : Nat) (caps : Array Value) (ans : List Int) (S : Nat → Prop) (Post : World → World → Prop) (w : World) (h : TableIs w ok p bm V) (hr : rightF c s = true) (hs : (lastV V c).1 < s)
    (hw : (Lit.int .i64 c).wf = true) (hSp : ¬ S p) (hSb : ¬ S bm) (hSo : ∀ k, ok k → ¬ S k) (hSn : ∀ k, S k → k < w.heap.size) (hob : ¬ ok bm) (hcf : ∀ w, Sem.run Try.prog (callFunc f caps) w = .ok (.enter f caps) w)
    (hdo : ∀ w1, Below w.heap.size w w1 → Calls Try.prog f caps w1 fun e w2 => ∃ A q, e = .returned (.slice A ans.length q) ∧ Bs w2 A q ans ∧ FrS S w1 w2 ∧ Post w1 w2) :
    Calls Try.prog 16 #[.pointer (some ⟨p, 0, none⟩), .int .i64 c, .int .i64 s, .func (.func f) #[] caps] w fun e w' => ∃ v A w1 w2, e = .returned (.tuple #[v, .int .i64 0]) ∧ Answer w w' v ans A ∧
      TableIs w' (fun k => (ok k ∨ w.heap.size ≤ k) ∧ ¬ AtB A k) p bm (aput c (s, ans) V) ∧ Below w.heap.size w w1 ∧ FrS S w1 w2 ∧ Post w1 w2 ∧ FrS (fun k => k = bm ∨ k = w.heap.size) w2 w' := by
  obtain ⟨M, e, T⟩ := h
  rw [last_view e] at hs
  have c0 : w.cell? ⟨p, 0, none⟩ = some (.map (some bm)) := (blk_cell T.blk 0).trans rfl
  have hl := run_lookup Try.underlying96 Try.underlying3 (zeroR w) T.map c false
  simp only [look_R, Bool.false_eq_true, if_false] at hl
  have HR := Aside0.mk ((right_at c s).trans (by rw [hr]))
  generalize lastR M c = r at hl hs
  obtain ⟨rs, ra, rc, rb⟩ := r
  simp only [encR] at hl hs
  have hs1 : decide (s < rs) = false := by simp; omega
  have hs2 : decide (rs < s) = true := by simp; omega
  have HB := Aside0.mk ((Below.refl w.heap.size w).alloc (Nat.le_refl _) (.cells #[.int .i64 rs, .slice ra rb.length rc] 100))
  have HT := Aside0.mk T
  have HD := Aside0.mk hdo
  have HE := Aside0.mk e
  clear T hr hdo e
  go_enter Try.func16, Try.ntmps16
  go_wp2_with (go_at_call 57; refine (session_right.calls c s true _ HR.out).mono ?_; rintro e w' ⟨rfl, ⟨nd, rfl⟩⟩)
  refine (HD.out _ (pw_below_drewN HB.out nd)).mono ?_
  rintro e w2 ⟨A1, q1, rfl, hb, hF, hP⟩
  have HB1 := Aside0.mk hb
  have HF1 := Aside0.mk hF
  have HP1 := Aside0.mk hP
  have HX := Aside0.mk (hF.blk (blk_drewN (blk_new w (.cells #[.int .i64 rs, .slice ra rb.length rc] 100)) nd) (fun e => by have := hSn _ e; omega))
  clear hb hF hP
  go_wp2_with fail
  refine (clone_calls A1 q1 ans w2 HB1.out).mono ?_
  rintro e w3 ⟨A2, q2, rfl, hb, hn, hB⟩
  have HB2 := Aside0.mk hb
  have HN2 := Aside0.mk hn
  have HBB := Aside0.mk hB
  have HX3 := Aside0.mk (blk_below HX.out hB)
  have x0 : w3.cell? ⟨w.heap.size, 0, none⟩ = some (.int .i64 rs) := (blk_cell HX3.out 0).trans rfl
  have x1 : w3.cell? ⟨w.heap.size, 1, none⟩ = some (.slice ra rb.length rc) := (blk_cell HX3.out 1).trans rfl
  have z0 := blk_frozen HX3.out 0
  have z1 := blk_frozen HX3.out 1
  clear hb hn hB HX
  go_wp2_with fail
  have hlt : w.heap.size < w2.heap.size := by
    have h1 := HF1.out.size
    have h2 : (World.drewN (w.alloc (.cells #[.int .i64 rs, .slice ra rb.length rc] 100)) nd).heap.size = w.heap.size + 1 := by simp
    omega
  have T1 : TabIs w3 (fun k => ok k ∧ k < w.heap.size) p bm M :=
    (((HT.out.frS (S := fun _ => False) (FrS.of_below (pw_below_drewN HB.out nd)) (fun h => h) (fun h => h) (fun _ _ _ h => h) (ok' := fun k => ok k ∧ k < w.heap.size) (fun k h1 h2 => ⟨h1, h2⟩)).frS HF1.out hSp hSb (fun k h _ => hSo k h.1) (fun k h _ => h)).below HBB.out)
  have F3 : FrS (fun k => k = w.heap.size) w3 ((w3.setCell ⟨w.heap.size, 0, none⟩ (.int .i64 s)).setCell ⟨w.heap.size, 1, none⟩ (.slice A2 ans.length q2)) :=
    ((FrS.refl (fun k => k = w.heap.size) w3).set (p := ⟨w.heap.size, 0, none⟩) (fun _ => rfl) (.int .i64 s)).set (p := ⟨w.heap.size, 1, none⟩) (fun _ => rfl) (.slice A2 ans.length q2)
  have T2 := T1.frS (ok' := fun k => ok k ∧ k < w.heap.size) F3 (by have := blk_lt HT.out.blk; omega) (by have := HT.out.map.lt; omega) (fun k h _ => by have := h.2; omega) (fun k h _ => h)
  have B2 := HB2.out.frS F3 (fun b hb => by have := (HN2.out b hb).1; omega)
  have X4 := blk_set (blk_set HX3.out 0 (.int .i64 s)) 1 (.slice A2 ans.length q2)
  have F2 : FrS (fun k => k = bm ∨ k = w.heap.size) w2 ((w3.setCell ⟨w.heap.size, 0, none⟩ (.int .i64 s)).setCell ⟨w.heap.size, 1, none⟩ (.slice A2 ans.length q2)) :=
    FrS.of_new HBB.out (F3.mono (fun k _ h => .inr h))
  have N4 : ∀ k, AtB A2 k → w.heap.size < k ∧ k < ((w3.setCell ⟨w.heap.size, 0, none⟩ (.int .i64 s)).setCell ⟨w.heap.size, 1, none⟩ (.slice A2 ans.length q2)).heap.size := fun k hk => by
    have := HN2.out k hk
    have := F3.size
    omega
  have hszs : w.heap.size < ((w3.setCell ⟨w.heap.size, 0, none⟩ (.int .i64 s)).setCell ⟨w.heap.size, 1, none⟩ (.slice A2 ans.length q2)).heap.size := by
    have := F3.size
    have := HBB.out.size
    omega
  generalize hW4 : (w3.setCell ⟨w.heap.size, 0, none⟩ (.int .i64 s)).setCell ⟨w.heap.size, 1, none⟩ (.slice A2 ans.length q2) = W4 at T2 B2 X4 F2 N4 hszs ⊢
  clear hW4 F3 T1 x0 x1 z0 z1
  have d0 : W4.cell? ⟨p, 0, none⟩ = some (.map (some bm)) := (blk_cell T2.blk 0).trans rfl
  have y0 : W4.cell? ⟨w.heap.size, 0, none⟩ = some (.int .i64 s) := (blk_cell X4 0).trans rfl
  have y1 : W4.cell? ⟨w.heap.size, 1, none⟩ = some (.slice A2 ans.length q2) := (blk_cell X4 1).trans rfl
  obtain ⟨w5, hu, HM, HF, hz⟩ := run_mapUpdate Try.underlying96 Try.underlying3 T2.map.drew c hw (encR ⟨s, A2, q2, ans⟩)
  simp only [encR] at hu
  have F5 : FrS (fun k => k = bm) W4 w5 := (FrS.refl _ W4).drew.trans (FrS.of_fr1 HF rfl)
  have T5 : TabIs w5 (fun k => (ok k ∧ k < w.heap.size) ∨ w.heap.size < k) p bm (aput c ⟨s, A2, q2, ans⟩ M) := by
    refine ⟨F5.blk T2.blk T2.ne, by rw [← aput_map]; exact HM, fun x hx => ?_⟩
    rcases mem_put hx with rfl | hx
    · exact ⟨B2.frS F5 (fun b hb e => by have := (N4 b hb).1; have := HT.out.map.lt; omega), fun k hk => ⟨.inr (N4 k hk).1, Nat.lt_of_lt_of_le (N4 k hk).2 F5.size⟩⟩
    · exact (T2.recs x hx).frS F5 (fun k h _ e => hob (e ▸ h.1)) (fun k h _ => .inl h)
  have B5 := B2.frS F5 (fun b hb e => by have := (N4 b hb).1; have := HT.out.map.lt; omega)
  have X5 := F5.blk X4 (by have := HT.out.map.lt; omega)
  have y5 : w5.cell? ⟨w.heap.size, 1, none⟩ = some (.slice A2 ans.length q2) := (blk_cell X5 1).trans rfl
  have HT5 := Aside0.mk T5
  have HB5 := Aside0.mk B5
  have HF5 := Aside0.mk (F2.trans (F5.mono (fun k _ h => .inl h)))
  have HS5 := Aside0.mk (Nat.lt_of_lt_of_le hszs F5.size)
  clear HM HF hz F5 T5 B5 X5 T2 B2 X4 F2 N4 hszs
  go_region
  go_wp2_with fail
  refine (clone_calls A2 q2 ans w5 HB5.out).mono ?_
  rintro e w6 ⟨A3, q3, rfl, hb, hn, hB⟩
  have HB6 := Aside0.mk hb
  have HN6 := Aside0.mk hn
  have HBB6 := Aside0.mk hB
  clear hb hn hB
  go_wp2_with fail
  go_ret2
  refine ⟨_, A3, _, w2, rfl, ⟨⟨q3, rfl, HB6.out⟩, fun k hk => ⟨?_, (HN6.out k hk).2⟩⟩, ⟨_, by unfold view; rw [← aput_map]; rw [← HE.out]; rfl, HT5.out.frS (S := fun _ => False) (FrS.of_below HBB6.out) (fun h => h) (fun h => h) (fun _ _ _ h => h) (fun k h h' => ?_)⟩, pw_below_drewN HB.out nd, HF1.out, HP1.out, HF5.out.trans (FrS.of_below HBB6.out)⟩
  · have := (HN6.out k hk).1; have := HS5.out; omega
  · refine ⟨?_, fun e => by have := (HN6.out k e).1; omega⟩
    rcases h with h | h
    · exact .inl h.1
    · exact .inr (by omega)
set_option maxRecDepth 100000 in
theorem len_calls (ok : Nat → Prop) (p bm : Nat) (V : View) (w : World) (h : TableIs w ok p bm V) :
    Calls Try.prog 22 #[.pointer (some ⟨p, 0, none⟩)] w fun e w' => e = .returned (.int .i64 V.length) ∧ w' = w := by
  obtain ⟨M, rfl, T⟩ := h
  have c0 : w.cell? ⟨p, 0, none⟩ = some (.map (some bm)) := (blk_cell T.blk 0).trans rfl
  have hl := fun tt => run_len (tt := tt) Try.underlying96 T.map
  have e : (view M).length = M.length := by simp [view, amap]
  have e2 : (amap encR M).length = M.length := by simp [amap]
  rw [e]
  rw [e2] at hl
  clear T e e2
  go_enter Try.func22, Try.ntmps22
  go_wp2
  go_ret
  exact ⟨rfl, rfl⟩
end Go.Proofs.Ytnkpleggmiamdaa.Se
