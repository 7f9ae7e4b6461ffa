/-
  The contract of slices.Insert of one number into a row of the call's own.
-/
import Derived.Test.YtfcaebceklhbkaaDoorRow
import Derived.Shelf.Spec.SlicesInsertGrow
namespace Go.Proofs.YtfcaebceklhbkaaDoor
open Go.RowKit
set_option linter.unusedVariables false

/-- A row's cells, written over from place o on. -/
def over (cur : Array Value) : Nat → List Value → Array Value
  | _, [] => cur
  | o, v :: r => over (cur.setIfInBounds o v) (o + 1) r
theorem over_size : ∀ (vs : List Value) (o : Nat) (cur : Array Value), (over cur o vs).size = cur.size
  | [], _, _ => rfl
  | v :: r, o, cur => by rw [over, over_size r, Array.size_setIfInBounds]
theorem over_out : ∀ (vs : List Value) (o : Nat) (cur : Array Value) (k : Nat), (k < o ∨ o + vs.length ≤ k) → (over cur o vs)[k]? = cur[k]?
  | [], _, _, _, _ => rfl
  | v :: r, o, cur, k, h => by
    simp only [List.length_cons] at h
    rw [over, over_out r (o + 1) _ k (by omega), Array.getElem?_setIfInBounds, if_neg (by omega)]
theorem over_in : ∀ (vs : List Value) (o : Nat) (cur : Array Value) (j : Nat), j < vs.length → o + j < cur.size → (over cur o vs)[o + j]? = vs[j]?
  | v :: r, o, cur, 0, _, h => by
    rw [over, over_out r (o + 1) _ _ (by omega), Nat.add_zero, Array.getElem?_setIfInBounds, if_pos rfl, if_pos (by omega)]
    rfl
  | v :: r, o, cur, j + 1, hj, h => by
    rw [over, show o + (j + 1) = (o + 1) + j by omega, over_in r (o + 1) _ j (by simpa using hj) (by rw [Array.size_setIfInBounds]; omega)]
    rfl
theorem setCells_block (b : Nat) (T : TypeId) : ∀ (vs : List Value) (o : Nat) (w : World) (cur : Array Value), w.heap[b]? = some (.cells cur T (0, 0)) → (w.setCells b o vs).heap[b]? = some (.cells (over cur o vs) T (0, 0))
  | [], _, _, _, h => h
  | v :: r, o, w, cur, h => setCells_block b T r (o + 1) _ _ (set_at h o v)
theorem setCells_below (N b : Nat) (hb : N ≤ b) : ∀ (vs : List Value) (o : Nat) (a w : World), Below N a w → Below N a (w.setCells b o vs)
  | [], _, _, _, h => h
  | v :: r, o, a, w, h => setCells_below N b hb r (o + 1) a _ (h.setCell hb v)

theorem grown_refl (w : World) (row : Option Nat) : w.grownBy w row := ⟨rfl, rfl, rfl, Nat.le_refl _, fun _ _ _ => rfl⟩
theorem grown_drew {a w : World} {row : Option Nat} (h : a.grownBy w row) : a.grownBy w.drew row := ⟨h.os, h.tape, h.output, h.size, h.block⟩
theorem grown_setCells (g : Nat) : ∀ (vs : List Value) (o : Nat) (a w : World) (row : Option Nat), (a.heap.size ≤ g ∨ row = some g) → a.grownBy w row → a.grownBy (w.setCells g o vs) row
  | [], _, _, _, _, _, h => h
  | v :: r, o, a, w, row, hg, h => grown_setCells g r (o + 1) a _ row hg ⟨h.os, h.tape, h.output, by simpa [World.setCell] using h.size, fun k hk hr => by
      rw [Below.heap_setCell _ _ _ _ (show k ≠ g from fun e => by rcases hg with hg | hg; omega; exact hr (by rw [e, hg]))]
      exact h.block k hk hr⟩

theorem size2 : (Tryd.prog.info? 2).map (·.size) = some 1 := by kernel_rfl
theorem numV_length (l : List Int) : (numV l).length = l.length := by simp [numV]
theorem numV_one (l : List Int) : ∀ v ∈ numV l, v.oneCell' = true := by
  intro v hv
  obtain ⟨x, _, rfl⟩ := List.mem_map.1 hv
  rfl
theorem numV_at {l : List Int} {j : Nat} {v : Value} (h : (numV l)[j]? = some v) : j < l.length ∧ v = .int .i64 (l.getD j 0) := by
  rw [numV, List.getElem?_map] at h
  obtain ⟨x, hx, rfl⟩ := Option.map_eq_some_iff.1 h
  exact ⟨(List.getElem?_eq_some_iff.1 hx).1, by simp [List.getD, hx]⟩

/-- What is inserted. -/
def insF (l : List Int) (i : Nat) (a : Int) : List Int := l.take i ++ a :: l.drop i

theorem insF_lt {l : List Int} {i k : Nat} {a : Int} (h : k < i) (hi : i ≤ l.length) : (insF l i a).getD k 0 = l.getD k 0 := by
  simp only [insF, List.getD_eq_getElem?_getD]
  rw [List.getElem?_append_left (by simp; omega), List.getElem?_take_of_lt h]
theorem insF_eq {l : List Int} {i : Nat} {a : Int} (hi : i ≤ l.length) : (insF l i a).getD i 0 = a := by
  simp only [insF, List.getD_eq_getElem?_getD]
  rw [List.getElem?_append_right (by simp; omega)]
  simp [show min i l.length = i by omega]
theorem insF_gt {l : List Int} {i j : Nat} {a : Int} (hi : i ≤ l.length) : (insF l i a).getD (i + 1 + j) 0 = l.getD (i + j) 0 := by
  simp only [insF, List.getD_eq_getElem?_getD]
  rw [List.getElem?_append_right (by simp; omega)]
  simp only [List.length_take, show min i l.length = i by omega]
  rw [show i + 1 + j - i = j + 1 by omega, List.getElem?_cons_succ, List.getElem?_drop]

set_option maxRecDepth 100000 in
set_option maxHeartbeats 8000000 in
theorem insert_shift (N g n c i vb : Nat) (a : Int) (l : List Int) (cur : Array Value) (w : World) (hi : i < n) (hl : l.length = n) (hroom : n + 1 ≤ c) (hc63 : c ≤ 9223372036854775807) (hvb : vb ≠ g) (hN : N ≤ g)
    (hg : w.heap[g]? = some (.cells cur 2 (0, 0))) (hcs : cur.size = c) (hcur : ∀ j, j < n → cur[j]? = some (.int .i64 (l.getD j 0))) (hv : w.heap[vb]? = some (.cells #[.int .i64 a] 2 (0, 0))) :
    Calls Tryd.prog 58 #[.slice (some ⟨g, 0, none⟩) n c, .int .i64 i, .slice (some ⟨vb, 0, none⟩) 1 1] w fun e w' => ∃ v', e = .returned v' ∧ OwnNums N w' v' (insF l i a) ∧ Below N w w' ∧ w.grownBy w' (some g) := by
  have hz2 : ¬ ((i : Int) = (n : Int)) := by omega
  have hsa : w.shape? vb = some (2, 1) := by simp [World.shape?, hv]
  have hsb : w.shape? g = some (2, c) := by simp [World.shape?, hg, hcs]
  have hov : ∀ lb cb, (callFunc 77 #[.slice (some ⟨vb, 0, none⟩) 1 1, .slice (some ⟨g, i + 1, none⟩) lb cb]).run Tryd.prog w = .ok (.value (.bool false)) w := fun lb cb => by
    rw [run_callFunc_extern Tryd.func77 (by kernel_rfl) (by kernel_rfl) (by kernel_rfl) (e := Extern.SlicesOverlaps.overlaps #[22, 22] #[4]) (by kernel_rfl),
      Lib.run_overlaps_apart w 22 4 2 Tryd.underlying22 1 Tryd.sizeOf2 ⟨vb, 0, none⟩ ⟨g, i + 1, none⟩ 1 1 lb cb hvb 2 2 1 c hsa hsb (by omega) (free_of hv 0) (free_of hv 1)]
    rfl
  have hdl : (numV (l.drop i)).length = n - i := by rw [numV_length, List.length_drop, hl]
  have hc1 : ∀ ty dc sc, (Builtin.copy_ #[22, 22] ty #[.slice (some ⟨g, i + 1, none⟩) (n - i) dc, .slice (some ⟨g, i, none⟩) (n + 1 - i) sc]).run Tryd.prog w.drew = .ok (goInt (numV (l.drop i)).length) (w.drew.setCells g (i + 1) (numV (l.drop i))) := fun ty dc sc =>
    run_copy_cells w.drew _ _ ty 2 g (i + 1) (n - i) dc ⟨g, i, none⟩ (n + 1 - i) sc _ Tryd.underlying22 size2 (by rw [hdl]; simp only [Nat.min_def]; split <;> omega)
      (fun j v hj => by
        obtain ⟨h1, rfl⟩ := numV_at hj
        rw [List.length_drop] at h1
        rw [addr_add]
        show w.cell? _ = _
        rw [cell_of hg, hcur _ (by omega)]
        simp [List.getD])
      (fun j hj => by
        rw [hdl] at hj
        show (w.cell? _).isSome = true
        rw [cell_of hg, Array.getElem?_eq_getElem (by omega)]; rfl)
      (fun j hj => free_of hg _) (numV_one _)
  have hg1 := setCells_block g 2 (numV (l.drop i)) (i + 1) w.drew cur hg
  have hc2 : ∀ (W : World), (∀ x, W.cell? x = (w.drew.setCells g (i + 1) (numV (l.drop i))).cell? x) → (∀ x, W.frozen? x = (w.drew.setCells g (i + 1) (numV (l.drop i))).frozen? x) → ∀ ty dc, (Builtin.copy_ #[22, 22] ty #[.slice (some ⟨g, i, none⟩) (n + 1 - i) dc, .slice (some ⟨vb, 0, none⟩) 1 1]).run Tryd.prog W = .ok (goInt [Value.int .i64 a].length) (W.setCells g i [.int .i64 a]) := fun W hWc hWf ty dc =>
    run_copy_cells W _ _ ty 2 g i (n + 1 - i) dc ⟨vb, 0, none⟩ 1 1 _ Tryd.underlying22 size2 (by simp only [List.length_cons, List.length_nil, Nat.min_def]; split <;> omega)
      (fun j v hj => by
        match j, hj with
        | 0, hj =>
          cases hj
          rw [addr_add, hWc, World.cell?_setCells_out g _ _ _ _ (fun h _ => absurd h hvb)]
          show w.cell? _ = _
          rw [cell_of hv]; rfl)
      (fun j hj => by
        have : j = 0 := by simpa using hj
        subst this
        rw [hWc, cell_of hg1, Array.getElem?_eq_getElem (by rw [over_size]; omega)]; rfl)
      (fun j hj => by rw [hWf]; exact free_of hg1 _) (by intro v hv; simp at hv; subst hv; rfl)
  have HF : Hid (OwnNums N ((w.drew.setCells g (i + 1) (numV (l.drop i))).setCells g i [.int .i64 a]) (.slice (some ⟨g, 0, none⟩) (n + 1) c) (insF l i a) ∧ Below N w ((w.drew.setCells g (i + 1) (numV (l.drop i))).setCells g i [.int .i64 a])) := by
    have hil : (insF l i a).length = n + 1 := by simp [insF]; omega
    refine ⟨.inr ⟨g, 0, c, over (over cur (i + 1) (numV (l.drop i))) i [.int .i64 a], by rw [hil], hN, setCells_block g 2 _ i _ _ hg1, by omega, by rw [over_size, over_size]; omega, fun k hk => ?_⟩, setCells_below N g hN _ _ _ _ (setCells_below N g hN _ _ _ _ ((Below.refl _ _).drew))⟩
    rw [hil] at hk
    rw [Nat.zero_add]
    rcases (by omega : k < i ∨ k = i ∨ i < k) with h | h | h
    · rw [over_out _ _ _ _ (.inl h), over_out _ _ _ _ (.inl (by omega)), hcur k (by omega), insF_lt h (by omega)]
    · subst h
      have h0 : (over (over cur (k + 1) (numV (l.drop k))) k [Value.int .i64 a])[k]? = some (.int .i64 a) := over_in [Value.int .i64 a] k (over cur (k + 1) (numV (l.drop k))) 0 (by simp) (by rw [over_size]; omega)
      rw [h0, insF_eq (by omega)]
    · obtain ⟨j, rfl⟩ : ∃ j, k = i + 1 + j := ⟨k - (i + 1), by omega⟩
      rw [over_out _ _ _ _ (.inr (by simp only [List.length_cons, List.length_nil]; omega)), over_in _ _ _ j (by rw [hdl]; omega) (by omega), insF_gt (by omega), numV, List.getElem?_map, List.getElem?_drop, List.getElem?_eq_getElem (by omega)]
      simp [List.getD, List.getElem?_eq_getElem (show i + j < l.length by omega)]
  have HGR : Hid (w.grownBy ((w.drew.setCells g (i + 1) (numV (l.drop i))).setCells g i [.int .i64 a]) (some g)) := grown_setCells g _ _ _ _ _ (.inr rfl) (grown_setCells g _ _ _ _ _ (.inr rfl) (grown_drew (grown_refl w _)))
  have HC1 := Lib.hid hc1
  have HC2 := Lib.hid hc2
  have hin : i ≤ n := by omega
  have htn : ((i : Int) + 1).toNat = i + 1 := by omega
  clear hc1 hc2 hg hcs hcur hv hg1 hsa hsb hdl
  go_enter Tryd.func58, Tryd.ntmps58
  go_wp2_with (simp only [hov])
  have hw1 : IntKind.i64.wrap ((i : Int) + 1) = (i : Int) + 1 := by rw [IntKind.wrap_i64]; omega
  have hb1 : (0 : Int) ≤ (i : Int) + 1 := by omega
  have hb2 : ¬ (c = i + 1) := by omega
  have hb3 : (i : Int) ≤ (n : Int) + 1 := by omega
  have hb4 : ¬ (c = i) := by omega
  have mixed : Tryd.prog.follows Departure.mixedOrders = true := by kernel_rfl
  go_region_law_o (refine step_copy_runI rfl _ _ 22 22 rfl (.slice (some ⟨g, i + 1, none⟩) (n - i) (c - (i + 1))) (.slice (some ⟨g, i, none⟩) (n + 1 - i) (c - i)) (by simp [Act.eval, Act.put]) (by simp [Act.eval, Act.put]) (HC1.out _ _ _) ?_)
  go_wp2_with fail
  rw [HC2.out _ (fun _ => rfl) (fun _ => rfl)]
  simp only [Result.andThen]
  rw [Oper.upon_value]
  go_wp2_with fail
  go_ret
  exact ⟨_, rfl, HF.out.1, HF.out.2, HGR.out⟩

set_option maxRecDepth 100000 in
set_option maxHeartbeats 8000000 in
theorem insert_end (N sc vb : Nat) (so : Option Addr) (a : Int) (l : List Int) (w : World) (hl : l.length ≤ 4000000) (hs : w.ownsRow N 2 1 (.slice so l.length sc) l.length (numV l)) (hN : N ≤ w.heap.size) (hv : w.heap[vb]? = some (.cells #[.int .i64 a] 2 (0, 0))) :
    Calls Tryd.prog 58 #[.slice so l.length sc, .int .i64 l.length, .slice (some ⟨vb, 0, none⟩) 1 1] w fun e w' => ∃ v', e = .returned v' ∧ OwnNums N w' v' (insF l l.length a) ∧ Below N w w' ∧ w.grownBy w' (Value.slice so l.length sc).ownBlock := by
  have hF : insF l l.length a = l ++ [a] := by simp [insF]
  rw [hF]
  obtain ⟨i0, hi0, hz0, hz1, hz2⟩ := info_parts info2
  have HSX : Hid (SrcOf w 1 (.slice (some ⟨vb, 0, none⟩) 1 1) 1 [.int .i64 a]) := by
    refine ⟨rfl, by intro u hu; simp at hu; subst hu; rfl, .inr ⟨⟨vb, 0, none⟩, 1, rfl, fun j u hj => ?_⟩⟩
    match j, hj with
    | 0, hj =>
      cases hj
      rw [addr_add, cell_of hv]
      rfl
  have HOW := Lib.hid hs
  have HEND : Hid (∀ v' w', Appended w N 2 1 (.slice so l.length sc) l.length 1 (numV l ++ [.int .i64 a]) v' w' → OwnNums N w' v' (l ++ [a]) ∧ Below N w w' ∧ w.grownBy w' (Value.slice so l.length sc).ownBlock) := fun v' w' ha => by
    obtain ⟨h1, h2, _⟩ := ha
    refine ⟨owned_nums (by rw [show (l ++ [a]).map (Value.int .i64) = numV l ++ [.int .i64 a] by simp [numV]]; simpa using h1), (Below.refl _ _).grown h2 hN (fun k hk => (hs.lt k hk).1), h2⟩
  have hsc : so = none ∨ ∃ g, so = some ⟨g, 0, none⟩ ∧ l.length ≤ sc ∧ sc ≤ 9223372036854775807 := by
    rcases hs.2 with ⟨e, _⟩ | ⟨g, cap, _, e, _, _, h1, h2, _⟩
    · exact .inl (Value.slice.inj e).1
    · obtain ⟨e1, _, e3⟩ := Value.slice.inj e
      exact .inr ⟨g, e1, by omega, by unfold maxLen at h2; omega⟩
  have hn0 : so = none → l.length = 0 ∧ sc = 0 := by
    intro e
    rcases hs.2 with ⟨e2, h⟩ | ⟨g, cap, _, e2, _⟩
    · exact ⟨h, (Value.slice.inj e2).2.2⟩
    · rw [e] at e2
      cases (Value.slice.inj e2).1
  clear hs hv hF
  rcases hsc with rfl | ⟨g, rfl, h1, h2⟩
  · obtain ⟨e1, e2⟩ := hn0 rfl
    have hl0 : l = [] := List.eq_nil_of_length_eq_zero e1
    subst hl0 e2
    simp only [List.length_nil] at *
    go_enter Tryd.func58, Tryd.ntmps58
    go_wp2_with (at_builtin; go_must (refine wpList_append_row rfl (.tmp 23) (.tmp 24) 22 rfl N 2 i0 _ 1 8 Tryd.underlying22 hi0 hz0 hz1 (by decide) hz2 rfl (.slice none 0 0) 0 (numV []) rfl HOW.out 1 [.int .i64 a] HSX.out ?l2 ?b2 ?n2 ?_); go_must (case l2 => (unfold maxLen; omega)); go_must (case b2 => omega); go_must (case n2 => exact hN); intro v' w' ha; have HA := Lib.hid (HEND.out _ _ ha); clear ha)
    go_ret
    exact ⟨_, rfl, HA.out.1, HA.out.2.1, HA.out.2.2⟩
  · clear hn0
    generalize hn : l.length = n at *
    go_enter Tryd.func58, Tryd.ntmps58
    go_wp2_with (at_builtin; go_must (refine wpList_append_row rfl (.tmp 23) (.tmp 24) 22 rfl N 2 i0 _ 1 8 Tryd.underlying22 hi0 hz0 hz1 (by decide) hz2 rfl (.slice (some ⟨g, 0, none⟩) n sc) n (numV l) rfl HOW.out 1 [.int .i64 a] HSX.out ?l2 ?b2 ?n2 ?_); go_must (case l2 => (unfold maxLen; omega)); go_must (case b2 => omega); go_must (case n2 => exact hN); intro v' w' ha; have HA := Lib.hid (HEND.out _ _ ha); clear ha)
    all_goals go_ret
    all_goals exact ⟨_, rfl, HA.out.1, HA.out.2.1, HA.out.2.2⟩

set_option maxRecDepth 100000 in
set_option maxHeartbeats 8000000 in
theorem insert_grow (N g n c i vb : Nat) (a : Int) (l : List Int) (cur : Array Value) (w : World) (hi : i < n) (hl : l.length = n) (hn4 : n ≤ 4000000) (hnc : n ≤ c) (hroom : c < n + 1) (hN : N ≤ w.heap.size)
    (hg : w.heap[g]? = some (.cells cur 2 (0, 0))) (hcur : ∀ j, j < n → cur[j]? = some (.int .i64 (l.getD j 0))) (hv : w.heap[vb]? = some (.cells #[.int .i64 a] 2 (0, 0))) :
    Calls Tryd.prog 58 #[.slice (some ⟨g, 0, none⟩) n c, .int .i64 i, .slice (some ⟨vb, 0, none⟩) 1 1] w fun e w' => ∃ v', e = .returned v' ∧ OwnNums N w' v' (insF l i a) ∧ Below N w w' ∧ w.grownBy w' (some g) := by
  obtain ⟨i0, hi0, hz0, hz1, hz2⟩ := info_parts info2
  have hgw := lt_of_heap hg
  have hvw := lt_of_heap hv
  have hz3 : ¬ ((i : Int) = (n : Int)) := by omega
  have hz4 : (c : Int) < (n : Int) + 1 := by omega
  have hhead : (numV (l.take i)).length = i := by rw [numV_length, List.length_take]; omega
  have hold : (Builtin.firstCells i0.size i (.slice (some ⟨g, 0, none⟩) i c)).run Tryd.prog w.drew = .ok (numV (l.take i)).toArray w.drew := by
    rw [hz1]
    refine run_firstCells_some (P := Tryd.prog) (w := w.drew) 1 i ⟨g, 0, none⟩ i c _ (by rw [hhead, Nat.mul_one]) (fun j v hj => ?_)
    obtain ⟨h1, rfl⟩ := numV_at hj
    rw [List.length_take] at h1
    rw [addr_add]
    show w.cell? _ = _
    rw [cell_of hg, Nat.zero_add, hcur j (by omega)]
    simp only [List.getD_eq_getElem?_getD]
    rw [List.getElem?_take_of_lt (by omega)]
  have hrz : ∀ ty, (Builtin.append_ #[22, 3] ty #[.slice (some ⟨g, 0, none⟩) i c, .int .i64 ((n : Int) + 1 - (i : Int))]).run Tryd.prog w =
      .ok (.slice (some ⟨w.heap.size, 0, none⟩) (n + 1) (grownCap w (n + 1) c 2)) (w.drew.alloc (.cells ((numV (l.take i)).toArray ++ Builtin.zeroCells (Value.int .i64 0).cells (n + 1 - i) ++ Builtin.zeroCells (Value.int .i64 0).cells (grownCap w (n + 1) c 2 - (n + 1))) 2)) := fun ty => by
    have h := Lib.run_append_grow_zeros w 22 3 ty 2 i0 _ .i64 .i64 Tryd.underlying22 Tryd.underlying3 hi0 hz0 (some ⟨g, 0, none⟩) i c (numV (l.take i)) hold (n + 1 - i) (by omega) (by omega) (by omega) (by omega) (by rw [hz2]; omega) (by rw [hz2, show i + (n + 1 - i) = n + 1 by omega]; exact growslice_fits (by omega) (by omega))
    rw [show i + (n + 1 - i) = n + 1 by omega] at h
    rw [show (n : Int) + 1 - (i : Int) = ((n + 1 - i : Nat) : Int) by omega]
    exact h
  generalize hG : grownCap w (n + 1) c 2 = G at *
  have hGn : n + 1 ≤ G := by rw [← hG]; exact grownCap_ge w _ _ _
  have hG63 : G ≤ 9223372036854775807 := by
    have := grownCap_le_maxLen w (n + 1) c 2 (by unfold maxLen; omega)
    rw [hG] at this
    unfold maxLen at this
    omega
  generalize hROW : (numV (l.take i)).toArray ++ Builtin.zeroCells (Value.int .i64 0).cells (n + 1 - i) ++ Builtin.zeroCells (Value.int .i64 0).cells (G - (n + 1)) = ROW at *
  have hRs : ROW.size = G := by
    rw [← hROW]
    simp [Builtin.zeroCells, Value.cells, hhead]
    omega
  have hRk : ∀ k, k < i → ROW[k]? = some (.int .i64 (l.getD k 0)) := by
    intro k hk
    rw [← hROW, Array.append_assoc, Array.getElem?_append_left (by simp [hhead]; exact hk)]
    simp only [List.getElem?_toArray]
    rw [numV, List.getElem?_map, List.getElem?_take_of_lt hk, List.getElem?_eq_getElem (by omega)]
    simp [List.getD, List.getElem?_eq_getElem (show k < l.length by omega)]
  clear hROW hG hold
  have hM : ((w.alloc (.cells ROW 2)).drew).heap[w.heap.size]? = some (.cells ROW 2 (0, 0)) := heap_alloc_new w _
  have hv1 : ((w.alloc (.cells ROW 2)).drew).heap[vb]? = some (.cells #[.int .i64 a] 2 (0, 0)) := (Below.heap_alloc w _ _ hvw).trans hv
  have hg1 : ((w.alloc (.cells ROW 2)).drew).heap[g]? = some (.cells cur 2 (0, 0)) := (Below.heap_alloc w _ _ hgw).trans hg
  have hdl : (numV (l.drop i)).length = n - i := by rw [numV_length, List.length_drop, hl]
  have hM2 := setCells_block w.heap.size 2 [.int .i64 a] i _ _ hM
  have hcA : ∀ ty dc, (Builtin.copy_ #[22, 22] ty #[.slice (some ⟨w.heap.size, i, none⟩) (n + 1 - i) dc, .slice (some ⟨vb, 0, none⟩) 1 1]).run Tryd.prog (w.alloc (.cells ROW 2)).drew = .ok (goInt [Value.int .i64 a].length) ((w.alloc (.cells ROW 2)).drew.setCells w.heap.size i [.int .i64 a]) := fun ty dc =>
    run_copy_cells (w.alloc (.cells ROW 2)).drew _ _ ty 2 w.heap.size i (n + 1 - i) dc ⟨vb, 0, none⟩ 1 1 _ Tryd.underlying22 size2 (by simp only [List.length_cons, List.length_nil, Nat.min_def]; split <;> omega)
      (fun j v hj => by
        match j, hj with
        | 0, hj =>
          cases hj
          rw [addr_add, cell_of hv1]; rfl)
      (fun j hj => by
        have : j = 0 := by simpa using hj
        subst this
        rw [cell_of hM, Array.getElem?_eq_getElem (by omega)]; rfl)
      (fun j hj => free_of hM _) (by intro v hv; simp at hv; subst hv; rfl)
  have hne : g ≠ w.heap.size := by omega
  have hcB : ∀ ty dc sc, (Builtin.copy_ #[22, 22] ty #[.slice (some ⟨w.heap.size, i + 1, none⟩) (n - i) dc, .slice (some ⟨g, i, none⟩) (n - i) sc]).run Tryd.prog ((w.alloc (.cells ROW 2)).drew.setCells w.heap.size i [.int .i64 a]).drew = .ok (goInt (numV (l.drop i)).length) (((w.alloc (.cells ROW 2)).drew.setCells w.heap.size i [.int .i64 a]).drew.setCells w.heap.size (i + 1) (numV (l.drop i))) := fun ty dc sc =>
    run_copy_cells ((w.alloc (.cells ROW 2)).drew.setCells w.heap.size i [.int .i64 a]).drew _ _ ty 2 w.heap.size (i + 1) (n - i) dc ⟨g, i, none⟩ (n - i) sc _ Tryd.underlying22 size2 (by rw [hdl]; simp only [Nat.min_def]; split <;> omega)
      (fun j v hj => by
        obtain ⟨h1, rfl⟩ := numV_at hj
        rw [List.length_drop] at h1
        rw [addr_add]
        show ((w.alloc (.cells ROW 2)).drew.setCells w.heap.size i [.int .i64 a]).cell? _ = _
        rw [World.cell?_setCells_out _ _ _ _ _ (fun h _ => absurd h hne), cell_of hg1, hcur _ (by omega)]
        simp [List.getD])
      (fun j hj => by
        rw [hdl] at hj
        show (((w.alloc (.cells ROW 2)).drew.setCells w.heap.size i [.int .i64 a]).cell? _).isSome = true
        rw [cell_of hM2, Array.getElem?_eq_getElem (by rw [over_size]; omega)]; rfl)
      (fun j hj => free_of hM2 _) (numV_one _)
  have HF : Hid (OwnNums N (((w.alloc (.cells ROW 2)).drew.setCells w.heap.size i [.int .i64 a]).drew.setCells w.heap.size (i + 1) (numV (l.drop i))) (.slice (some ⟨w.heap.size, 0, none⟩) (n + 1) G) (insF l i a) ∧ Below N w (((w.alloc (.cells ROW 2)).drew.setCells w.heap.size i [.int .i64 a]).drew.setCells w.heap.size (i + 1) (numV (l.drop i)))) := by
    have hil : (insF l i a).length = n + 1 := by simp [insF]; omega
    have hM3 : ((w.alloc (.cells ROW 2)).drew.setCells w.heap.size i [.int .i64 a]).drew.heap[w.heap.size]? = some (.cells (over ROW i [.int .i64 a]) 2 (0, 0)) := hM2
    refine ⟨.inr ⟨w.heap.size, 0, G, over (over ROW i [.int .i64 a]) (i + 1) (numV (l.drop i)), by rw [hil], hN, setCells_block w.heap.size 2 _ _ _ _ hM3, by omega, by rw [over_size, over_size]; omega, fun k hk => ?_⟩, setCells_below N w.heap.size hN _ _ _ _ (setCells_below N w.heap.size hN _ _ _ _ (((Below.refl _ _).alloc hN _).drew)).drew⟩
    rw [hil] at hk
    rw [Nat.zero_add]
    rcases (by omega : k < i ∨ k = i ∨ i < k) with h | h | h
    · rw [over_out _ _ _ _ (.inl (by omega)), over_out _ _ _ _ (.inl h), hRk k h, insF_lt h (by omega)]
    · subst h
      have h0 : (over ROW k [Value.int .i64 a])[k]? = some (.int .i64 a) := over_in [Value.int .i64 a] k ROW 0 (by simp) (by omega)
      rw [over_out _ _ _ _ (.inl (by omega)), h0, insF_eq (by omega)]
    · obtain ⟨j, rfl⟩ : ∃ j, k = i + 1 + j := ⟨k - (i + 1), by omega⟩
      rw [over_in _ _ _ j (by rw [hdl]; omega) (by rw [over_size]; omega), insF_gt (by omega), numV, List.getElem?_map, List.getElem?_drop, List.getElem?_eq_getElem (by omega)]
      simp [List.getD, List.getElem?_eq_getElem (show i + j < l.length by omega)]
  have HGR : Hid (w.grownBy (((w.alloc (.cells ROW 2)).drew.setCells w.heap.size i [.int .i64 a]).drew.setCells w.heap.size (i + 1) (numV (l.drop i))) (some g)) :=
    grown_setCells w.heap.size _ _ _ _ _ (.inl (Nat.le_refl _)) (grown_drew (grown_setCells w.heap.size _ _ w (w.alloc (.cells ROW 2)).drew _ (.inl (Nat.le_refl _)) (grown_drew ⟨rfl, rfl, rfl, by simp, fun k hk _ => Below.heap_alloc w _ k hk⟩)))
  have HCA := Lib.hid hcA
  have HCB := Lib.hid hcB
  have HRZ := Lib.hid hrz
  have hin : i ≤ n := by omega
  have htn : ((i : Int) + 1).toNat = i + 1 := by omega
  have hw1 : IntKind.i64.wrap ((i : Int) + 1) = (i : Int) + 1 := by rw [IntKind.wrap_i64]; omega
  have hb1 : (0 : Int) ≤ (i : Int) + 1 := by omega
  have hb3 : (i : Int) ≤ (n : Int) := by omega
  have hGi : ¬ (G = i) := by omega
  have hGim : ¬ (G = i + 1) := by omega
  have hci : ¬ (c = i) := by omega
  have mixed : Tryd.prog.follows Departure.mixedOrders = true := by kernel_rfl
  clear hcA hcB hrz hg hcur hv hM hM2 hv1 hg1 hRk hRs hdl
  go_enter Tryd.func58, Tryd.ntmps58
  go_wp2_with (at_builtin; go_must (refine Lib.wpList_append_run _ rfl _ _ _ _ rfl _ _ rfl rfl _ _ (HRZ.out _) ?_))
  rw [HCA.out]
  simp only [Result.andThen]
  rw [Oper.upon_value]
  go_wp2_with fail
  go_region_law_o (refine step_copy_runI rfl _ _ 22 22 rfl (.slice (some ⟨w.heap.size, i + 1, none⟩) (n - i) (G - (i + 1))) (.slice (some ⟨g, i, none⟩) (n - i) (c - i)) (by simp [Act.eval, Act.put]) (by simp [Act.eval, Act.put]) (HCB.out _ _ _) ?_)
  go_wp2_with fail
  go_ret
  exact ⟨_, rfl, HF.out.1, HF.out.2, HGR.out⟩

/-- One number, inserted into a row of the call's own. -/
theorem insert_walk (N sc i vb : Nat) (so : Option Addr) (a : Int) (l : List Int) (w : World) (hl : l.length ≤ 4000000) (hi : i ≤ l.length) (hs : w.ownsRow N 2 1 (.slice so l.length sc) l.length (numV l)) (hN : N ≤ w.heap.size)
    (hvb : (Value.slice so l.length sc).ownBlock ≠ some vb) (hv : w.heap[vb]? = some (.cells #[.int .i64 a] 2 (0, 0))) :
    Calls Tryd.prog 58 #[.slice so l.length sc, .int .i64 i, .slice (some ⟨vb, 0, none⟩) 1 1] w fun e w' => ∃ v', e = .returned v' ∧ OwnNums N w' v' (insF l i a) ∧ Below N w w' ∧ w.grownBy w' (Value.slice so l.length sc).ownBlock := by
  by_cases he : i = l.length
  · subst he
    exact insert_end N sc vb so a l w hl hs hN hv
  · rcases hs.2 with ⟨_, h⟩ | ⟨g, cap, cur, e, hg, hb, h1, h2, h3, h4⟩
    · omega
    · obtain ⟨rfl, _, rfl⟩ := Value.slice.inj e
      have hcur : ∀ j, j < l.length → cur[j]? = some (.int .i64 (l.getD j 0)) := by
        intro j hj
        have h5 : (cur.toList.take l.length)[j]? = (numV l)[j]? := by
          rw [Nat.mul_one] at h4
          rw [← h4]
        rw [List.getElem?_take_of_lt hj, numV, List.getElem?_map, List.getElem?_eq_getElem hj] at h5
        rw [← Array.getElem?_toList, h5]
        simp [List.getD, List.getElem?_eq_getElem hj]
      have hne : vb ≠ g := fun e => hvb (by rw [e]; rfl)
      by_cases hr : l.length + 1 ≤ sc
      · exact insert_shift N g l.length sc i vb a l cur w (by omega) rfl hr (by unfold maxLen at h2; omega) hne hg hb (by omega) hcur hv
      · exact insert_grow N g l.length sc i vb a l cur w (by omega) rfl hl h1 (by omega) hN hb hcur hv
end Go.Proofs.YtfcaebceklhbkaaDoor
