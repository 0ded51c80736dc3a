/- members: Clone, DeleteFunc, Insert of the library in the words of rows; with, without. -/
import Derived.Test.YtkeadpichlgagaaMeA
import Derived.Test.YtkeadpichlgagaaKeM
import Derived.Test.YtkeadpichlgagaaSl
import Derived.Lib.OwnBridge
import Derived.Lib.EndianMore
import Derived.Lib.SliceRun
namespace Go.Proofs.Ytkeadpichlgagaa.Me
open Go.RowKit Go.Lib Go.Sort Go.Shelf Go.Proofs.YtkeadpichlgagaaW.PrintWords Go.Proofs.YtkeadpichlgagaaW.PrintLast Go.Proofs.YtkeadpichlgagaaW.PrintMore
open Go.Proofs.Ytkeadpichlgagaa.PMembersNext Go.Proofs.Ytkeadpichlgagaa.Mp
set_option linter.unusedVariables false
set_option linter.unusedSimpArgs false

theorem spot_none {w : World} {p : Addr} {v : Value} (h : w.cell? p = some v) : p.spot = none := by
  unfold World.cell? at h
  split at h
  · split at h
    · cases h
    · rename_i hs; simpa using hs
  · cases h
abbrev R3 (w : World) (B : Nat) (v : Value) (xs : List Int) : Prop := (Kd.int .i64).R 3 w B (fun k => B ≤ k) v xs
theorem R3_of_own {w : World} {B : Nat} {v : Value} {xs : List Int} {n : Nat} (h : w.ownsRow B 3 1 v n (xs.map (Value.int .i64))) : R3 w B v xs ∧ n = xs.length := by
  have hn : n = xs.length := by have := h.1; simp at this; omega
  subst hn
  exact ⟨Kd.R_of_own (α := Int) (enc := Value.int .i64) (h1 := fun _ => rfl) h (fun k hk => (h.lt k hk).1), rfl⟩
theorem own_of_R3 {w : World} {B : Nat} {v : Value} {xs : List Int} {ok : Nat → Prop} (h : (Kd.int .i64).R 3 w B ok v xs) : w.ownsRow B 3 1 v xs.length (xs.map (Value.int .i64)) := Kd.own_of_R (α := Int) (enc := Value.int .i64) (h1 := fun _ => rfl) h
theorem C_cells {w : World} {ad : Addr} {n : Nat} {xs : List Int} (h : (Kd.int .i64).C w (some ad) n xs) (hn : n = xs.length) : ∀ j, j < xs.length → w.cell? (ad.add j) = some (.int .i64 (xs.getD j 0)) := by
  intro j hj
  obtain ⟨_, e, y⟩ := Kd.at_int h (j : Int) (by omega) (by omega)
  injection e with e
  subst e
  simpa [rd] using y
theorem C_none {w : World} {n : Nat} {xs : List Int} (h : (Kd.int .i64).C w none n xs) (hn : n = xs.length) : xs = [] := by
  cases hx : xs with
  | nil => rfl
  | cons x r =>
    subst hn
    obtain ⟨_, e, _⟩ := Kd.at_int h 0 (by omega) (by rw [hx]; simp)
    cases e
theorem clone_calls (A : Option Addr) (c : Nat) (xs : List Int) (w : World) (hC : (Kd.int .i64).C w A xs.length xs) (hl : xs.length ≤ 1000000) :
    Calls Try.prog 86 #[.slice A xs.length c] w fun e w' => ∃ v, e = .returned v ∧ R3 w' w.heap.size v xs ∧ Below w.heap.size w w' := by
  cases A with
  | none =>
    obtain rfl := C_none hC rfl
    exact (AnyG.slices_Clone_int_nil Ke.cloneA 0 c w).mono fun e w' ⟨he, hw⟩ => ⟨_, he, Kd.R_nil _ _ _ _ _, by rw [hw]; exact Below.refl _ _⟩
  | some ad =>
    by_cases h0 : xs.length = 0
    · obtain rfl := List.length_eq_zero_iff.1 h0
      refine (AnyG.slices_Clone_int_zero Ke.cloneA ad c w).mono fun e w' ⟨v, he, ho, _, hb⟩ => ⟨v, he, (R3_of_own (xs := []) ho).1, hb⟩
    · have hc := C_cells hC rfl
      have hs : ad.spot = none := spot_none (hc 0 (by omega))
      obtain ⟨b, off, sp⟩ := ad
      simp only at hs
      subst hs
      refine (AnyG.slices_Clone_int Ke.cloneA b off xs.length c xs w (Nat.le_refl _) (by omega) (fun j hj => by have := hc j hj; rwa [Addr.add_lit] at this)).mono fun e w' ⟨v, he, ho, _, hb⟩ => ?_
      rw [List.take_length] at ho
      exact ⟨v, he, (R3_of_own ho).1, hb⟩

theorem gives153 (c x : Int) (B : Nat) (W : World) (hc : W.cell? ⟨B, 0, none⟩ = some (.int .i64 c)) :
    FnGives Try.prog 153 #[.pointer (some ⟨B, 0, none⟩)] #[.int .i64 x] (.bool (x == c)) W := by
  show Calls Try.prog 153 #[.int .i64 x, .pointer (some ⟨B, 0, none⟩)] W _
  go_enter Try.func153, Try.ntmps153
  go_wp2
  all_goals (go_ret; exact ⟨by simp_all, 0, rfl⟩)
set_option maxRecDepth 100000 in
theorem idxnil_calls (g : Nat) (lb : Array Value) (w : World) : Calls Try.prog 110 #[.slice none 0 0, .func (.func g) #[] lb] w fun e w' => e = .returned (.int .i64 (-1)) ∧ w' = w := by
  go_enter Try.func110, Try.ntmps110
  go_wp2_with fail
  go_loopg [5, 8] 0 (fun kq v5 v8 wr => v8 = .int .i64 0 ∧ Aside0 (wr = w))
  case atStart => exact ⟨rfl, ⟨rfl⟩⟩
  case round =>
    obtain ⟨rfl, HW⟩ := hrel
    go_wp2_with fail
    go_ret
    exact ⟨rfl, HW.out⟩
set_option maxRecDepth 100000 in
theorem delnil_calls (g : Nat) (lb : Array Value) (w : World) : Calls Try.prog 152 #[.slice none 0 0, .func (.func g) #[] lb] w fun e w' => e = .returned (.slice none 0 0) ∧ w' = w := by
  go_enter Try.func152, Try.ntmps152
  go_wp2_with fail
  refine (idxnil_calls g lb w).mono ?_
  rintro e w1 ⟨rfl, rfl⟩
  go_wp2_with fail
  go_ret
  exact ⟨rfl, rfl⟩
theorem del_calls (c : Int) (B Bb : Nat) (v : Value) (xs : List Int) (w : World) (hR : R3 w B v xs) (hB : Bb < w.heap.size) (hne : Bb < B) (hcell : w.cell? ⟨Bb, 0, none⟩ = some (.int .i64 c)) (hl : xs.length ≤ 1000000) :
    Calls Try.prog 152 #[v, .func (.func 153) #[] #[.pointer (some ⟨Bb, 0, none⟩)]] w fun e w' => ∃ v', e = .returned v' ∧ R3 w' B v' (dropF xs c) ∧ Below B w w' := by
  have hO := own_of_R3 hR
  by_cases hv : v = .slice none 0 0
  · subst hv
    have hx : xs = [] := by
      rcases hO.2 with ⟨_, h⟩ | ⟨_, _, _, h, _⟩
      · exact List.length_eq_zero_iff.1 h
      · cases h
    subst hx
    exact (delnil_calls 153 _ w).mono fun e w' ⟨he, hw⟩ => ⟨_, he, Kd.R_nil _ _ _ _ _, by rw [hw]; exact Below.refl _ _⟩
  · obtain ⟨g, cap, rfl, hg, hgl, hcap, hmx, _, hH⟩ := holds_of_ownsRow hO hv
    have eg : ∀ args w, (callFunc 153 args).run Try.prog w = .ok (.enter 153 args) w := enters_of Try.func153 (by kernel_rfl) rfl
    have hcon := AnyE.slices_DeleteFunc Ke.delA (Value.int .i64) (fun _ => rfl) (fun x => x == c) 153 #[.pointer (some ⟨Bb, 0, none⟩)] eg 0 Try.zeroValue3 g 0 cap xs.toArray w
      (fun W x hb => gives153 c x Bb W ((hb.cell (p := ⟨Bb, 0, none⟩) hB).trans hcell))
      (fun n os dk x _ => gives153 c x Bb _ (by
        unfold sortWorld
        rw [cell?_grow _ _ _ (by show Bb < (putRow _ _ _ _ _).heap.size; rw [size_putRow]; exact hB), cell?_putRow_other _ _ g 0 _ _ (Or.inl (by show Bb ≠ g; omega))]
        exact hcell)) hH (by simp; omega) (by simpa using hcap)
    simp only [List.size_toArray] at hcon
    refine hcon.mono ?_
    rintro e w' ⟨he, q, hw⟩
    have hfl : (xs.filter fun x => !(x == c)).length ≤ xs.length := List.length_filter_le _ _
    have ho := ownsRow_putRow (q := q) (k := (dropF xs c).length) (ys := dropF xs c ++ List.replicate (xs.length - (dropF xs c).length) 0) hO (by rw [List.length_append, List.length_replicate]; unfold dropF; omega) (dropF_len _ _)
    rw [List.take_left] at ho
    refine ⟨_, he, ?_, ?_⟩
    · rw [hw]; exact (R3_of_own ho).1
    · rw [hw]; exact below_putRow (Below.refl _ _) hg
set_option maxRecDepth 100000 in
theorem without_calls (A : Option Addr) (ca : Nat) (xs : List Int) (c : Int) (w : World) (hC : (Kd.int .i64).C w A xs.length xs) (hl : xs.length ≤ 1000000) :
    Calls Try.prog 126 #[.slice A xs.length ca, .int .i64 c] w fun e w' => ∃ v, e = .returned v ∧ R3 w' w.heap.size v (dropF xs c) ∧ Below w.heap.size w w' := by
  have HC := Aside0.mk hC
  clear hC
  go_enter Try.func126, Try.ntmps126
  go_wp2_with fail
  have HX := Aside0.mk (blk_new w (.cells #[.int .i64 c] 3))
  have HB1 : Aside0 (Below w.heap.size w (w.alloc (.cells #[.int .i64 c] 3))) := ⟨(Below.refl _ w).alloc (Nat.le_refl _) _⟩
  generalize hbx : w.heap.size = bx at HX HB1 ⊢
  have HBX := Aside0.mk hbx
  clear hbx
  generalize w.alloc (.cells #[.int .i64 c] 3) = w1 at HX HB1 ⊢
  have HC1 : Aside0 ((Kd.int .i64).C w1 A xs.length xs) := ⟨Kd.C_below HC.out (by rw [HBX.out]; exact HB1.out)⟩
  refine (clone_calls A ca xs w1 HC1.out hl).mono ?_
  rintro e w2 ⟨v, rfl, hr, hb⟩
  have HR := Aside0.mk hr
  have HB2 := Aside0.mk hb
  clear hr hb
  have hcf : ∀ args w, (callFunc 153 args).run Try.prog w = .ok (.enter 153 args) w := enters_of Try.func153 (by kernel_rfl) rfl
  go_wp2_with fail
  have HX2 := blk_below HX.out HB2.out
  refine (del_calls c w1.heap.size bx v xs w2 HR.out (blk_lt HX2) (blk_lt HX.out) ((blk_cell HX2 0).trans rfl) hl).mono ?_
  rintro e w3 ⟨v3, rfl, hr, hb⟩
  have hsz : w.heap.size ≤ w1.heap.size := by have := HB1.out.size; omega
  go_wp2_with fail
  go_ret
  exact ⟨_, rfl, Kd.R_mono (Kd.R_lower hr hsz) (fun k hk => Nat.le_trans hsz hk), (show Below w.heap.size w w1 from by rw [HBX.out]; exact HB1.out).trans ((HB2.out.mono hsz).trans (hb.mono hsz))⟩

/-! Insert. -/
def putA (cur : Array Value) : Nat → List Value → Array Value
  | _, [] => cur
  | o, v :: r => putA (cur.setIfInBounds o v) (o + 1) r
theorem putA_size : ∀ (vs : List Value) (o : Nat) (cur : Array Value), (putA cur o vs).size = cur.size
  | [], _, _ => rfl
  | v :: r, o, cur => by unfold putA; rw [putA_size r]; simp
theorem putA_get : ∀ (vs : List Value) (o : Nat) (cur : Array Value) (j : Nat), o + vs.length ≤ cur.size → (putA cur o vs)[j]? = if o ≤ j ∧ j < o + vs.length then vs[j - o]? else cur[j]?
  | [], o, cur, j, h => by simp [putA]; intro h1 h2; omega
  | v :: r, o, cur, j, h => by
    simp only [List.length_cons] at h
    unfold putA
    rw [putA_get r (o + 1) _ j (by simp; omega), Array.getElem?_setIfInBounds]
    by_cases hj : j = o
    · subst hj
      rw [if_neg (by omega), if_pos rfl, if_pos (by omega), if_pos (by simp), Nat.sub_self]
      rfl
    · by_cases h1 : o + 1 ≤ j ∧ j < o + 1 + r.length
      · rw [if_pos h1, if_pos (by simp; omega), show j - o = (j - (o + 1)) + 1 by omega]
        rfl
      · rw [if_neg h1, if_neg (by omega), if_neg (by simp; omega)]
theorem heap_setCells {g : Nat} {e : TypeId} : ∀ (vs : List Value) (o : Nat) (w : World) (cur : Array Value), w.heap[g]? = some (.cells cur e (0, 0)) → (w.setCells g o vs).heap[g]? = some (.cells (putA cur o vs) e (0, 0))
  | [], _, _, _, h => h
  | v :: r, o, w, cur, h => heap_setCells r (o + 1) _ _ (heap_setCell_same w g o cur e v h)
theorem R_cur {w : World} {B g n cap : Nat} {xs : List Int} {ok : Nat → Prop} (h : (Kd.int .i64).R 3 w B ok (.slice (some ⟨g, 0, none⟩) n cap) xs) : ∃ cur, n = xs.length ∧ B ≤ g ∧ w.heap[g]? = some (.cells cur 3 (0, 0)) ∧ n ≤ cap ∧ cap ≤ maxLen ∧ cur.size = cap ∧ cur.toList.take n = xs.map (Value.int .i64) := by
  have hn := (Kd.R_reads' h).1
  subst hn
  rcases (own_of_R3 h).2 with ⟨h', _⟩ | ⟨g', cap', cur, h', hb, hg, hnc, hcm, hcs, htake⟩
  · cases h'
  · injection h' with h1 _ h3
    injection h1 with h1
    injection h1 with h1
    subst h1; subst h3
    exact ⟨cur, rfl, hb, hg, hnc, hcm, by omega, by rwa [Nat.mul_one] at htake⟩
theorem R_mk {w : World} {B g n cap : Nat} {cur : Array Value} {xs : List Int} (hB : B ≤ g) (hg : w.heap[g]? = some (.cells cur 3 (0, 0))) (hn : n = xs.length) (hc : n ≤ cap) (hm : cap ≤ maxLen) (hs : cur.size = cap) (ht : cur.toList.take n = xs.map (Value.int .i64)) : R3 w B (.slice (some ⟨g, 0, none⟩) n cap) xs := by
  refine (R3_of_own (n := n) ⟨by simp; omega, .inr ⟨g, cap, cur, rfl, hB, hg, hc, hm, by omega, by simpa using ht⟩⟩).1
theorem zc_size (n : Nat) : (Builtin.zeroCells (Value.int .i64 0).cells n).size = n := by rw [size_zeroCells]; simp [Value.cells]
theorem grown_new {w : World} (cur : Array Value) (e : TypeId) : (w.alloc (.cells cur e)).heap[w.heap.size]? = some (.cells cur e (0, 0)) := Array.getElem?_push_size
theorem insert_calls (B : Nat) (v : Value) (xs : List Int) (i : Nat) (x : Int) (vb : Nat) (w : World) (hR : R3 w B v xs) (hi : i ≤ xs.length) (hB : B ≤ w.heap.size) (hx : w.heap[vb]? = some (.cells #[.int .i64 x] 3 (0, 0))) (hvb : v.ownBlock ≠ some vb) (hl : xs.length ≤ 1000000) :
    Calls Try.prog 151 #[v, .int .i64 (i : Int), .slice (some ⟨vb, 0, none⟩) 1 1] w fun e w' => ∃ v', e = .returned v' ∧ R3 w' B v' (xs.take i ++ x :: xs.drop i) ∧ Below B w w' := by
  have hO := own_of_R3 hR
  have hvs : ∀ (j : Nat) (u : Value), ([Value.int .i64 x] : List Value)[j]? = some u → w.cell? ⟨vb, 0 + j, none⟩ = some u := by
    intro j u hj
    cases j with
    | zero => simp at hj; subst hj; simp [World.cell?, hx]
    | succ j => simp at hj
  have h1v : ∀ u ∈ ([Value.int .i64 x] : List Value), u.oneCell' = true := fun u hu => by simp at hu; subst hu; rfl
  have h1c : ∀ u ∈ xs.map (Value.int .i64), u.oneCell' = true := fun u hu => by
    obtain ⟨y, _, rfl⟩ := List.mem_map.1 hu
    rfl
  have hmap : (xs.take i ++ x :: xs.drop i).map (Value.int .i64) = (xs.map (Value.int .i64)).take i ++ .int .i64 x :: (xs.map (Value.int .i64)).drop i := by
    rw [List.map_append, List.map_cons, List.map_take, List.map_drop]
  have hlen : (xs.take i ++ x :: xs.drop i).length = xs.length + 1 := by simp; omega
  by_cases hv : v = .slice none 0 0
  · subst hv
    have hx0 : xs = [] := by
      rcases hO.2 with ⟨_, h⟩ | ⟨_, _, _, h, _⟩
      · exact List.length_eq_zero_iff.1 h
      · cases h
    subst hx0
    obtain rfl : i = 0 := by simpa using hi
    refine (Any2.slices_Insert_int_end_grow Ke.insA none 0 0 vb 0 1 1 [] [.int .i64 x] w (by omega) (by omega) (by omega) (by omega) rfl rfl (fun _ => rfl) (fun _ h => by cases h) hvs h1v).mono ?_
    rintro e w' ⟨he, hw⟩
    simp only [show Ke.insA_ren.t 3 = 3 from rfl] at he hw
    have hge := grownCap_ge w (0 + 1) 0 3
    have hle := grownCap_le_maxLen w (0 + 1) 0 3 (by unfold maxLen; omega)
    refine ⟨_, he, ?_, ?_⟩
    · rw [hw]
      refine R_mk (xs := [x]) (n := 0 + 1) hB (by exact grown_new (w := w.drew) _ _) rfl hge hle ?_ ?_
      · rw [Array.size_append, zc_size]; show 1 + _ = _; omega
      · rw [Array.toList_append]; simp
    · rw [hw]; exact (Below.refl B w).drew.alloc hB _
  · obtain ⟨g, cap, rfl, hg, hgl, hcap, hmx, _, hH⟩ := holds_of_ownsRow hO hv
    obtain ⟨cur, _, _, hcur, _, _, hcs, htk⟩ := R_cur hR
    have hne : vb ≠ g := fun e => hvb (by rw [e]; rfl)
    have hcl : (xs.map (Value.int .i64)).length = xs.length := by simp
    have hcells : ∀ (j : Nat) (u : Value), (xs.map (Value.int .i64))[j]? = some u → w.cell? ⟨g, 0 + j, none⟩ = some u := by
      intro j u hj
      rw [← htk, List.getElem?_take] at hj
      split at hj
      · rw [Array.getElem?_toList] at hj
        simp [World.cell?, hcur, hj]
      · cases hj
    have hfz : ∀ j, w.frozen? ⟨g, j, none⟩ = false := fun j => by simp [World.frozen?, hcur]
    have hsp : ∀ j, j < cap → (w.cell? ⟨g, j, none⟩).isSome = true := fun j hj => by simp [World.cell?, hcur]; omega
    have hcg : ∀ j, j < xs.length → cur[j]? = (xs.map (Value.int .i64))[j]? := fun j hj => by
      rw [← htk, List.getElem?_take, if_pos hj, Array.getElem?_toList]
    have hm64 : cap ≤ 9223372036854775807 := by have := hmx; unfold maxLen at this; omega
    by_cases hroom : xs.length + 1 ≤ cap
    · by_cases hin : i = xs.length
      · subst hin
        refine (Any2.slices_Insert_int_end_room Ke.insA g 0 xs.length cap vb 0 1 1 [.int .i64 x] w (by omega) hroom hm64 rfl (fun j hj => hsp _ (by omega)) (fun j hj => hfz _) hvs h1v).mono ?_
        rintro e w' ⟨he, hw⟩
        refine ⟨_, he, ?_, ?_⟩
        · rw [hw]
          refine R_mk hg (heap_setCells _ _ _ _ hcur) hlen.symm hroom hmx (by rw [putA_size]; exact hcs) ?_
          rw [hmap]
          refine List.ext_getElem? (fun j => ?_)
          rw [List.getElem?_take, Array.getElem?_toList, putA_get _ _ _ _ (by simp; omega)]
          rw [List.take_of_length_le (by simp), List.drop_of_length_le (by simp)]
          by_cases hj : j < xs.length
          · rw [if_pos (by omega), if_neg (by omega), List.getElem?_append_left (by simpa using hj), hcg j hj]
          · by_cases hj2 : j = xs.length
            · subst hj2
              rw [if_pos (by omega), if_pos (by simp), List.getElem?_append_right (by simp)]
              simp
            · rw [if_neg (by omega), List.getElem?_eq_none (by simp; omega)]
        · rw [hw]; exact Lib.below_setCells_w hg _ _ _
      · refine (Any2.slices_Insert_int_shift Ke.insA g 0 xs.length cap i vb 0 1 1 (xs.map (Value.int .i64)) [.int .i64 x] w (by omega) (by omega) hroom hm64 hne hcl rfl hcells (fun j hj => hsp _ (by omega)) (fun j hj => hfz _) hvs h1c h1v 3 3 1 cap (by simp [World.shape?, hx]) (by simp [World.shape?, hcur, hcs]) (by omega) (by simp [World.frozen?, hx]) (by simp [World.frozen?, hx])).mono ?_
        rintro e w' ⟨he, hw⟩
        refine ⟨_, he, ?_, ?_⟩
        · rw [hw]
          refine R_mk hg (heap_setCells _ _ _ _ (heap_setCells _ _ _ _ (show w.drew.heap[g]? = _ from hcur))) hlen.symm hroom hmx (by rw [putA_size, putA_size]; exact hcs) ?_
          rw [hmap]
          refine List.ext_getElem? (fun j => ?_)
          rw [List.getElem?_take, Array.getElem?_toList, putA_get _ _ _ _ (by rw [putA_size]; simp; omega), putA_get _ _ _ _ (by simp; omega)]
          simp only [List.length_drop, List.length_map, List.length_singleton, Nat.zero_add]
          by_cases h1 : j < i
          · rw [if_pos (by omega), if_neg (by omega), if_neg (by omega), List.getElem?_append_left (by simp; omega), List.getElem?_take, if_pos h1, hcg j (by omega)]
          · by_cases h2 : j = i
            · subst h2
              rw [if_pos (by omega), if_pos (by omega), List.getElem?_append_right (by simp; omega)]
              simp
              rw [show j - min j xs.length = 0 by omega]; rfl
            · by_cases h3 : j < xs.length + 1
              · rw [if_pos h3, if_neg (by omega), if_pos (by omega), List.getElem?_append_right (by simp; omega)]
                simp only [List.length_take, List.length_map]
                rw [show j - min i xs.length = (j - (i + 1)) + 1 by omega, List.getElem?_cons_succ]
              · rw [if_neg h3, List.getElem?_eq_none (by simp; omega)]
        · rw [hw]; exact ((Below.refl B w).drew.trans (Lib.below_setCells_w hg _ _ _)).trans (Lib.below_setCells_w hg _ _ _)
    · by_cases hin : i = xs.length
      · subst hin
        refine (Any2.slices_Insert_int_end_grow Ke.insA (some ⟨g, 0, none⟩) xs.length cap vb 0 1 1 (xs.map (Value.int .i64)) [.int .i64 x] w (by omega) hcap (by omega) (by omega) hcl rfl (fun h => by cases h) (fun a ha j u hj => by injection ha with ha; subst ha; rw [Addr.add_lit]; exact hcells j u hj) hvs h1v).mono ?_
        rintro e w' ⟨he, hw⟩
        simp only [show Ke.insA_ren.t 3 = 3 from rfl] at he hw
        have hge := grownCap_ge w (xs.length + 1) cap 3
        have hle := grownCap_le_maxLen w (xs.length + 1) cap 3 (by unfold maxLen; omega)
        refine ⟨_, he, ?_, ?_⟩
        · rw [hw]
          refine R_mk hB (by exact grown_new (w := w.drew) _ _) hlen.symm hge hle ?_ ?_
          · rw [Array.size_append, zc_size]; simp; omega
          · rw [Array.toList_append, hmap, List.take_of_length_le (by simp : (xs.map (Value.int .i64)).length ≤ xs.length), List.drop_of_length_le (by simp)]
            rw [List.take_append_of_le_length (by simp), List.take_of_length_le (by simp)]
        · rw [hw]; exact (Below.refl B w).drew.alloc hB _
      · refine (Any2.slices_Insert_int_grow Ke.insA g 0 xs.length cap i vb 0 1 1 (xs.map (Value.int .i64)) [.int .i64 x] w (by omega) (by omega) hcap (by omega) (by omega) hcl rfl hcells hvs h1c h1v).mono ?_
        rintro e w' ⟨he, hw⟩
        simp only [show Ke.insA_ren.t 3 = 3 from rfl] at he hw
        have hge := grownCap_ge w (xs.length + 1) cap 3
        have hle := grownCap_le_maxLen w (xs.length + 1) cap 3 (by unfold maxLen; omega)
        refine ⟨_, he, ?_, ?_⟩
        · rw [hw]
          refine R_mk hB (heap_setCells _ _ _ _ (show ((World.setCells _ _ _ _).drew).heap[_]? = _ from heap_setCells _ _ _ _ (show (World.drew (World.alloc _ _)).heap[_]? = _ from grown_new (w := w) _ _))) hlen.symm hge hle ?_ ?_
          · rw [putA_size, putA_size, Array.size_append, Array.size_append, zc_size, zc_size]; simp; omega
          · rw [hmap]
            refine List.ext_getElem? (fun j => ?_)
            have hsz : (((xs.map (Value.int .i64)).take i).toArray ++ Builtin.zeroCells (Value.int .i64 0).cells (xs.length + 1 - i) ++ Builtin.zeroCells (Value.int .i64 0).cells (grownCap w (xs.length + 1) cap 3 - (xs.length + 1))).size = grownCap w (xs.length + 1) cap 3 := by
              rw [Array.size_append, Array.size_append, zc_size, zc_size]; simp; omega
            rw [List.getElem?_take, Array.getElem?_toList]
            erw [putA_get _ _ _ _ (by rw [putA_size]; simp only [List.length_drop, List.length_map]; erw [hsz]; omega), putA_get _ _ _ _ (by simp only [List.length_singleton]; erw [hsz]; omega)]
            simp only [List.length_drop, List.length_map, List.length_singleton]
            by_cases h1 : j < i
            · rw [if_pos (by omega), if_neg (by omega), if_neg (by omega), List.getElem?_append_left (by simp; omega)]
              rw [Array.append_assoc, Array.getElem?_append_left (by simp; omega)]
              simp
            · by_cases h2 : j = i
              · subst h2
                rw [if_pos (by omega), if_neg (by omega), if_pos (by omega), List.getElem?_append_right (by simp; omega)]
                simp
                rw [show j - min j xs.length = 0 by omega]; rfl
              · by_cases h3 : j < xs.length + 1
                · rw [if_pos h3, if_pos (by omega), List.getElem?_append_right (by simp; omega)]
                  simp only [List.length_take, List.length_map]
                  rw [show j - min i xs.length = (j - (i + 1)) + 1 by omega, List.getElem?_cons_succ]
                · rw [if_neg h3, List.getElem?_eq_none (by simp; omega)]
        · rw [hw]
          refine Below.trans ?_ (Lib.below_setCells_w hB _ _ _)
          refine Below.drew ?_
          refine Below.trans ?_ (Lib.below_setCells_w hB _ _ _)
          exact ((Below.refl B w).alloc hB _).drew
set_option maxRecDepth 100000 in
theorem with_calls (A : Option Addr) (ca : Nat) (xs : List Int) (c : Int) (w : World) (hC : (Kd.int .i64).C w A xs.length xs) (hca : xs.length ≤ ca) (hl : xs.length ≤ 1000000) (hr : Ris xs) (hn : c ∉ xs) :
    Calls Try.prog 125 #[.slice A xs.length ca, .int .i64 c] w fun e w' => ∃ v, e = .returned v ∧ R3 w' w.heap.size v (putF c xs) ∧ Below w.heap.size w w' := by
  obtain ⟨i, f, hsp, hev⟩ := search_ev xs c (by omega) hr.up
  obtain ⟨k, hk⟩ := hev.rounds
  have HK := Aside0.mk hk
  have HP := Aside0.mk (putF_spot hsp hn)
  have hi := hsp.le
  have HC := Aside0.mk hC
  clear hC hev hsp hn hr hk
  go_enter Try.func125, Try.ntmps125
  go_wp2_with fail
  refine (slices_BinarySearch_int_int.calls k A ca xs c (i : Int) f w HC.out hca HK.out).mono ?_
  rintro e w1 ⟨rfl, hd⟩
  have HB1 : Aside0 (Below w.heap.size w w1) := ⟨by obtain ⟨n, rfl⟩ := hd.out; exact pw_below_drewN (Below.refl _ _) n⟩
  clear hd
  go_wp2_with fail
  refine (clone_calls A ca xs w1 (Kd.C_below HC.out HB1.out) hl).mono ?_
  rintro e w2 ⟨v, rfl, hr, hb⟩
  have HR := Aside0.mk hr
  have HB2 := Aside0.mk hb
  clear hr hb
  go_wp2_with fail
  have hvn : v.ownBlock ≠ some w2.heap.size := fun e => by have := Kd.R_lt HR.out _ e; omega
  refine (insert_calls w1.heap.size v xs i c w2.heap.size (w2.alloc (.cells #[.int .i64 c] 3)) (Kd.R_alloc HR.out _) hi (by have := HB2.out.size; simp; omega) (grown_new _ _) hvn hl).mono ?_
  rintro e w3 ⟨v3, rfl, hr, hb⟩
  rw [← HP.out] at hr
  have hsz : w.heap.size ≤ w1.heap.size := HB1.out.size
  go_wp2_with fail
  go_ret
  exact ⟨_, rfl, Kd.R_mono (Kd.R_lower hr hsz) (fun k hk => Nat.le_trans hsz hk), HB1.out.trans ((((HB2.out.alloc HB2.out.size _).trans hb)).mono hsz)⟩
end Go.Proofs.Ytkeadpichlgagaa.Me
