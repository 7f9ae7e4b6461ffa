/-
  The contract of judge.row: an operation of a stack or a queue; slices.Clone once more, its answer a row.
-/
import Derived.Test.YtfcaebceklhbkaaDoorOnMem
import Derived.Test.YtfcaebceklhbkaaDoorDoOne
namespace Go.Proofs.YtfcaebceklhbkaaDoor
open Go.RowKit
set_option linter.unusedVariables false

def numV (l : List Int) : List Value := l.map (Value.int .i64)
theorem numV_snoc (l : List Int) (a : Int) : numV (l ++ [a]) = numV l ++ [.int .i64 a] := by simp [numV]

set_option maxRecDepth 100000 in
set_option maxHeartbeats 4000000 in
theorem clone_row (v : Value) (l : List Int) (w : World) (h : Nums w v l) (hl : l.length ≤ 4000000) :
    Calls Tryd.prog 35 #[v] w fun e w' => ∃ v', e = .returned v' ∧ w'.ownsRow w.heap.size 2 1 v' l.length (numV l) ∧ Below w.heap.size w w' := by
  obtain ⟨i0, hi0, hz0, hz1, hz2⟩ := info_parts info2
  have h' := h
  obtain ⟨ao, c, rfl, h⟩ := h
  cases ao with
  | none =>
    have hl0 : l = [] := by
      rcases h with h | ⟨g, o, e, _⟩
      · exact h
      · cases e
    subst hl0
    clear h h'
    have hnil : ∀ w, (binOp .eql 22 (.slice none ([] : List Int).length c) (.slice none 0 0)).run Tryd.prog w = .ok (.bool true) w := fun w => Lib.run_eql_slice_nil w 22 2 none 0 c 0 0 Tryd.underlying22
    simp only [List.length_nil] at hnil
    go_enter Tryd.func35, Tryd.ntmps35
    go_wp2_with fail
    go_ret
    exact ⟨_, rfl, World.ownsRow_nil _ _ _ _, Below.refl _ _⟩
  | some ad =>
    have HSX := Lib.hid (nums_src (h'.below ((Below.refl _ _).alloc (Nat.le_refl _) (.cells #[] 2))))
    have HOW : Hid ((w.alloc (.cells #[] 2)).ownsRow w.heap.size 2 1 (.slice (some ⟨w.heap.size, 0, none⟩) 0 0) 0 []) := ⟨rfl, .inr ⟨w.heap.size, 0, #[], rfl, Nat.le_refl _, heap_alloc_new w _, Nat.le_refl _, by decide, rfl, rfl⟩⟩
    have HB : Hid (Below w.heap.size w (w.alloc (.cells #[] 2))) := (Below.refl _ _).alloc (Nat.le_refl _) _
    clear h h'
    have hnil : ∀ w, (binOp .eql 22 (.slice (some ad) l.length c) (.slice none 0 0)).run Tryd.prog w = .ok (.bool false) w := fun w => Lib.run_eql_slice_nil w 22 2 (some ad) _ c 0 0 Tryd.underlying22
    go_enter Tryd.func35, Tryd.ntmps35
    go_wp2_with (at_builtin; go_must (refine wpList_append_row rfl (.tmp 5) (.tmp 6) 22 rfl w.heap.size 2 i0 _ 1 8 Tryd.underlying22 hi0 hz0 hz1 (by decide) hz2 rfl (.slice (some ⟨w.heap.size, 0, none⟩) 0 0) 0 [] rfl HOW.out l.length (l.map (Value.int .i64)) HSX.out ?l2 ?b2 ?n2 ?_); go_must (case l2 => (unfold maxLen; omega)); go_must (case b2 => omega); go_must (case n2 => (simp)); intro v' w' ha; have HA := Lib.hid ha; clear ha)
    go_ret
    obtain ⟨h1, h2, h3⟩ := HA.out
    refine ⟨_, rfl, by simpa [numV] using h1, HB.out.grown h2 (by simp) (fun k hk => ?_)⟩
    cases hk
    exact Nat.le_refl _

/-- What row answers. -/
def DoneR (N : Nat) (r : List Int × Bool × Int) (w : World) (e : Ending) (w' : World) : Prop := ∃ v, e = .returned (.tuple #[v, ansV r.2.1 r.2.2]) ∧ OwnNums N w' v r.1 ∧ Below N w w'
theorem OwnNums.alloc2 {N : Nat} {w : World} {v : Value} {l : List Int} {o p : Obj} (h : OwnNums N w v l) : OwnNums N ((w.alloc o).alloc p) v l := by
  rcases h with h | ⟨g, q, c, cur, rfl, hg, hb, hc, hs, hx⟩
  · exact .inl h
  · exact .inr ⟨g, q, c, cur, rfl, hg, ((Below.heap_alloc _ _ _ (by have := (Array.getElem?_eq_some_iff.1 hb).1; simp; omega)).trans (Below.heap_alloc _ _ _ (Array.getElem?_eq_some_iff.1 hb).1)).trans hb, hc, hs, hx⟩
theorem fin_row {N : Nat} {r0 r : List Int × Bool × Int} {w : World} {cs : Array Value} {v : Value} {X : Obj} {act : Act} (hN : N ≤ w.heap.size) (hd : act.defers = []) (h7 : act.tmps.getD 7 undef = .pointer (some ⟨w.heap.size + 1, 0, none⟩)) (h6 : act.tmps.getD 6 undef = v)
    (w' : World) (hw : w' = (w.alloc X).alloc (.cells cs 26) ∨ ∃ n, w' = ((w.alloc X).alloc (.cells cs 26)).drewN n) (hcs : cs = #[.bool r.2.1, .int .i64 r.2.2, .slice none 0 0]) (hv : OwnNums N w v r.1) (hr : r0 = r) :
    bodyPost Tryd.prog Tryd.f38 (DoneR N r0 w) .ret act w' := by
  have hc : ∀ i, w'.cell? ⟨w.heap.size + 1, i, none⟩ = cs[i]? := by
    intro i
    rcases hw with rfl | ⟨n, rfl⟩
    · exact cell_two _ _ _ _ _
    · exact cell_two _ _ _ _ _
  have hb : Below N w w' := by
    rcases hw with rfl | ⟨n, rfl⟩
    · exact (below_two _ _ _).mono hN
    · exact ((below_two _ _ _).mono hN).trans ⟨rfl, rfl, rfl, Nat.le_refl _, fun _ _ => rfl⟩
  have hv' : OwnNums N w' v r.1 := by
    rcases hw with rfl | ⟨n, rfl⟩
    · exact hv.alloc2
    · exact hv.alloc2 (o := X) (p := .cells cs 26)
  subst hcs hr
  obtain ⟨tmps, defers⟩ := act
  subst hd
  have hr := results_tmp_cell (fn := Tryd.f38) (p := 7) (u := 6) (ty := 26) rfl tmps Tryd.prog w' _ ⟨w.heap.size + 1, 0, none⟩ h7 (load_ans w' _ _ _ _ (hc 0) (hc 1) (hc 2))
  rw [h6] at hr
  exact bodyPost_ret hr rfl ⟨v, rfl, hv', hb⟩

theorem row_end {N M : Nat} {w w2 w4 : World} {sv v' : Value} {l : List Int} {a : Int} {o : Obj} {A B C : Value} (hM : N ≤ M) (hb : Below N w w2) (hM2 : M < w2.heap.size) (hrow : (w2.alloc o).ownsRow N 2 1 sv l.length (numV l))
    (ha : Appended (w2.alloc o) N 2 1 sv l.length 1 (numV l ++ [.int .i64 a]) v' w4) (hne : sv.ownBlock ≠ some M) (hr : w4.heap[M]? = some (.cells #[A, B, C] 26 (0, 0))) (ok : Bool) (n : Int) :
    (((w4.setCell ⟨M, 0, none⟩ (.bool ok)).setCell ⟨M, 1, none⟩ (.int .i64 n)).setCell ⟨M, 2, none⟩ (.slice none 0 0)).heap[M]? = some (.cells #[.bool ok, .int .i64 n, .slice none 0 0] 26 (0, 0)) ∧
    OwnNums N (((w4.setCell ⟨M, 0, none⟩ (.bool ok)).setCell ⟨M, 1, none⟩ (.int .i64 n)).setCell ⟨M, 2, none⟩ (.slice none 0 0)) v' (l ++ [a]) ∧
    Below N w (((w4.setCell ⟨M, 0, none⟩ (.bool ok)).setCell ⟨M, 1, none⟩ (.int .i64 n)).setCell ⟨M, 2, none⟩ (.slice none 0 0)) := by
  obtain ⟨h1, h2, h3⟩ := ha
  have hb4 : Below N w w4 := (hb.alloc (by omega) o).grown h2 (by simp; omega) (fun k hk => (hrow.lt k hk).1)
  have hv : v'.ownBlock ≠ some M := by
    rcases h3 with ⟨e, _⟩ | ⟨g, cap, e, _, hg⟩
    · rw [e]; simp [Value.ownBlock]
    · rw [e]
      show some g ≠ some M
      rcases hg with hg | hg
      · exact fun e => hne (hg.trans e)
      · have : (w2.alloc o).heap.size = w2.heap.size + 1 := by simp
        simp only [ne_eq, Option.some.injEq]
        omega
  have g1 : ∀ (W : World) (i : Nat) (x : Value), W.grownBy (W.setCell ⟨M, i, none⟩ x) (some M) := fun W i x => ⟨rfl, rfl, rfl, by simp [World.setCell], fun k _ hk => Below.heap_setCell _ _ _ _ (fun e => hk (by simp [e]))⟩
  have hrow' : w4.ownsRow N 2 1 v' (l ++ [a]).length (numV (l ++ [a])) := by
    rw [numV_snoc]
    simpa using h1
  have e1 := set_at hr 0 (.bool ok)
  have e2 := set_at e1 1 (.int .i64 n)
  refine ⟨set_at e2 2 (.slice none 0 0), owned_nums (((hrow'.kept (g1 _ _ _) (.inr hv)).kept (g1 _ _ _) (.inr hv)).kept (g1 _ _ _) (.inr hv)), ?_⟩
  exact ((hb4.setCell hM _).setCell hM _).setCell hM _

set_option maxRecDepth 100000 in
set_option maxHeartbeats 8000000 in
theorem row_walk (N : Nat) (o : Int) (ho : o = 3 ∨ o = 4) (s : Value) (l : List Int) (k a b c : Int) (w : World) (hN : N ≤ w.heap.size) (hs : w.ownsRow N 2 1 s l.length (numV l)) (hl : l.length ≤ 4000000) :
    Calls Tryd.prog 38 #[.int .i64 o, s, opV k a b c] w (DoneR N (rowF o l k a) w) := by
  have HO := Lib.hid (owned_nums hs)
  have HR := Lib.hid hs
  have hl' : (l.length : Int) ≤ 4000000 := by omega
  obtain ⟨so, sc, rfl, hsc⟩ : ∃ so sc, s = .slice so l.length sc ∧ l.length ≤ sc ∧ sc ≤ 9223372036854775807 := by
    rcases hs.2 with ⟨rfl, h⟩ | ⟨g, cap, cur, rfl, _, _, h1, h2, _⟩
    · exact ⟨none, 0, by rw [h], by omega, by omega⟩
    · exact ⟨_, cap, rfl, h1, by unfold maxLen at h2; omega⟩
  obtain ⟨hsc, hsm⟩ := hsc
  unfold opV
  by_cases hk1 : k = 1
  · subst hk1
    cases l with
    | nil =>
      have hF : rowF o [] 1 a = ([], false, 0) := rfl
      clear hs HR
      simp only [List.length_nil] at *
      go_enter Tryd.func38, Tryd.ntmps38
      go_wp2_with fail
      all_goals (try simp only [Exit.inBlock, Exit.then])
      exact fin_row (v := .slice so 0 sc) (r := ([], false, 0)) hN rfl rfl rfl _ (.inl rfl) rfl HO.out hF
    | cons x t =>
      obtain ⟨g, rfl, hg, hcell⟩ : ∃ g, so = some ⟨g, 0, none⟩ ∧ g < w.heap.size ∧ ∀ i, i < (x :: t).length → w.cell? ⟨g, i, none⟩ = some (.int .i64 ((x :: t).getD i 0)) := by
        rcases HO.out with ⟨_, h⟩ | ⟨g, q, c', cur, e, _, hb, _, _, hx⟩
        · cases h
        · rcases HR.out.2 with ⟨e2, _⟩ | ⟨g2, _, _, e2, _⟩
          · cases e2
          · cases e2
            cases e
            refine ⟨g, rfl, lt_of_heap hb, fun i hi => ?_⟩
            have := hx i hi
            rw [Nat.zero_add] at this
            rw [cell_of hb]
            exact this
      have hall : ∀ i, i < (x :: t).length → ∀ o1 o2, ((w.alloc o1).alloc o2).cell? ⟨g, i, none⟩ = some (.int .i64 ((x :: t).getD i 0)) := fun i hi o1 o2 =>
        (World.cell?_of_block (a := ⟨g, i, none⟩) ((Below.heap_alloc _ _ _ (by simp; omega)).trans (Below.heap_alloc _ _ _ hg))).trans (hcell i hi)
      have HALL := Lib.hid hall
      have HTL : Hid (OwnNums N w (.slice (if sc = 1 then some ⟨g, 0, none⟩ else some ⟨g, 1, none⟩) t.length (sc - 1)) t) := by
        rcases HO.out with ⟨_, h⟩ | ⟨g2, q, c', cur, e, h1, h2, h3, h4, h5⟩
        · cases h
        · rcases HR.out.2 with ⟨e2, _⟩ | ⟨g3, _, _, e2, _⟩
          · cases e2
          · cases e2
            cases e
            have hl3 : t.length + 1 ≤ sc := h3
            show OwnNums N w (.slice (if sc = 1 then some ⟨g, 0, none⟩ else some ⟨g, 1, none⟩) t.length (sc - 1)) t
            by_cases hs1 : sc = 1
            · rw [if_pos hs1]
              exact .inr ⟨g, 0, sc - 1, cur, rfl, h1, h2, by omega, by omega, fun i hi => by omega⟩
            · rw [if_neg hs1]
              refine .inr ⟨g, 1, sc - 1, cur, rfl, h1, h2, by omega, by omega, fun i hi => ?_⟩
              have := h5 (i + 1) (by simpa using hi)
              rw [Nat.zero_add] at this
              rw [show 1 + i = i + 1 by omega, this]
              simp
      have HDL : Hid (OwnNums N w (.slice (some ⟨g, 0, none⟩) t.length sc) (x :: t).dropLast) := by
        rcases HO.out with ⟨_, h⟩ | ⟨g2, q, c', cur, e, h1, h2, h3, h4, h5⟩
        · cases h
        · rcases HR.out.2 with ⟨e2, _⟩ | ⟨g3, _, _, e2, _⟩
          · cases e2
          · cases e2
            cases e
            refine .inr ⟨g, 0, sc, cur, by simp, h1, h2, by simp at h3 ⊢; omega, h4, fun i hi => ?_⟩
            have hi' : i < t.length := by simpa using hi
            rw [h5 i (by simp; omega)]
            congr 2
            simp only [List.getD_eq_getElem?_getD]
            rw [List.getElem?_dropLast, if_pos (by simpa using hi')]
      clear hall hcell hs
      simp only [List.length_cons] at *
      generalize hn : t.length = n at *
      rcases ho with rfl | rfl
      · have hF : rowF 3 (x :: t) 1 a = ((x :: t).dropLast, true, (x :: t).getLastD 0) := rfl
        have hlast : ∀ o1 o2, ((w.alloc o1).alloc o2).cell? ⟨g, n, none⟩ = some (.int .i64 ((x :: t).getLastD 0)) := by
          intro o1 o2
          rw [HALL.out n (by omega) o1 o2]
          congr 2
          rw [List.getD_eq_getElem?_getD, List.getLastD_eq_getLast?, List.getLast?_eq_getElem?]
          simp [hn]
        have hne : ((n : Int) + 1 == 0) = false := by rw [beq_eq_false_iff_ne]; omega
        clear HALL HTL
        go_enter Tryd.func38, Tryd.ntmps38
        go_wp2_with fail
        go_region
        all_goals (go_wp2_with fail)
        all_goals (try simp only [Exit.inBlock, Exit.then])
        all_goals (exact fin_row (v := .slice (some ⟨g, 0, none⟩) n sc) (r := ((x :: t).dropLast, true, (x :: t).getLastD 0)) hN rfl rfl rfl _ (.inr ⟨1, rfl⟩) rfl HDL.out hF)
      · have hF : rowF 4 (x :: t) 1 a = (t, true, x) := rfl
        have hfirst : ∀ o1 o2, ((w.alloc o1).alloc o2).cell? ⟨g, 0, none⟩ = some (.int .i64 x) := fun o1 o2 => (HALL.out 0 (by omega) o1 o2)
        have hne : ((n : Int) + 1 == 0) = false := by rw [beq_eq_false_iff_ne]; omega
        clear HALL HDL
        by_cases hs1 : sc = 1
        · subst hs1
          have HT2 : Hid (OwnNums N w (.slice (some ⟨g, 0, none⟩) n 0) t) := HTL.out
          clear HTL
          obtain rfl : n = 0 := by omega
          go_enter Tryd.func38, Tryd.ntmps38
          go_wp2_with fail
          go_region
          all_goals (go_wp2_with fail)
          all_goals (try simp only [Exit.inBlock, Exit.then])
          all_goals (exact fin_row (v := .slice (some ⟨g, 0, none⟩) 0 0) (r := (t, true, x)) hN rfl rfl rfl _ (.inr ⟨1, rfl⟩) rfl HT2.out hF)
        · have HT2 : Hid (OwnNums N w (.slice (some ⟨g, 1, none⟩) n (sc - 1)) t) := by
            have := HTL.out
            rw [if_neg hs1] at this
            exact this
          clear HTL
          go_enter Tryd.func38, Tryd.ntmps38
          go_wp2_with fail
          go_region
          all_goals (go_wp2_with fail)
          all_goals (try simp only [Exit.inBlock, Exit.then])
          all_goals (exact fin_row (v := .slice (some ⟨g, 1, none⟩) n (sc - 1)) (r := (t, true, x)) hN rfl rfl rfl _ (.inr ⟨1, rfl⟩) rfl HT2.out hF)
  · by_cases hk2 : k = 2
    · have hF : rowF o l k a = (l ++ [a], true, 0) := by simp [rowF, hk2]
      subst hk2
      obtain ⟨i0, hi0, hz0, hz1, hz2⟩ := info_parts info2
      have hop : ((w.alloc (.cells #[.int .i64 2, .int .i64 a, .int .i64 b, .int .i64 c] 31)).alloc (.cells #[.bool false, .int .i64 0, .slice none 0 0] 26)).heap[w.heap.size]? = some (.cells #[.int .i64 2, .int .i64 a, .int .i64 b, .int .i64 c] 31 (0, 0)) := by
        rw [Below.heap_alloc _ _ _ (by simp)]
        exact heap_alloc_new w _
      have hrs : ((w.alloc (.cells #[.int .i64 2, .int .i64 a, .int .i64 b, .int .i64 c] 31)).alloc (.cells #[.bool false, .int .i64 0, .slice none 0 0] 26)).heap[w.heap.size + 1]? = some (.cells #[.bool false, .int .i64 0, .slice none 0 0] 26 (0, 0)) := by
        have := heap_alloc_new (w.alloc (.cells #[.int .i64 2, .int .i64 a, .int .i64 b, .int .i64 c] 31)) (.cells #[.bool false, .int .i64 0, .slice none 0 0] 26)
        simpa using this
      have hw2 : ((w.alloc (.cells #[.int .i64 2, .int .i64 a, .int .i64 b, .int .i64 c] 31)).alloc (.cells #[.bool false, .int .i64 0, .slice none 0 0] 26)).heap.size = w.heap.size + 2 := by simp
      have HB2 : Hid (Below N w ((w.alloc (.cells #[.int .i64 2, .int .i64 a, .int .i64 b, .int .i64 c] 31)).alloc (.cells #[.bool false, .int .i64 0, .slice none 0 0] 26))) := (below_two _ _ _).mono hN
      have HR2 := Lib.hid ((HR.out.alloc (.cells #[.int .i64 2, .int .i64 a, .int .i64 b, .int .i64 c] 31)).alloc (.cells #[.bool false, .int .i64 0, .slice none 0 0] 26))
      have HBK := Lib.hid (fun g (hg : (Value.slice so l.length sc).ownBlock = some g) => row_block HR.out hg)
      clear hs
      go_enter Tryd.func38, Tryd.ntmps38
      generalize hw2g : (w.alloc (.cells #[.int .i64 2, .int .i64 a, .int .i64 b, .int .i64 c] 31)).alloc (.cells #[.bool false, .int .i64 0, .slice none 0 0] 26) = w2 at *
      have HWG := Lib.hid hw2g
      have HRS := Lib.hid hrs
      have HW2 := Lib.hid hw2
      have HOW := Lib.hid (HR2.out.alloc (.cells #[.int .i64 a] 2))
      have HSX := Lib.hid (src_one0 w2 #[.int .i64 a] 2 1 rfl (by intro u hu; simp at hu; subst hu; rfl))
      have HBS := Lib.hid (show N ≤ (w2.alloc (.cells #[.int .i64 a] 2)).heap.size from by simp; omega)
      have hx0 := (cell_of hop 0).trans rfl
      have hx1 := (cell_of hop 1).trans rfl
      clear hop hrs hw2
      have HAP := Lib.hid (fun v' w' (ha : Appended (w2.alloc (.cells #[.int .i64 a] 2)) N 2 1 (.slice so l.length sc) l.length 1 (numV l ++ [.int .i64 a]) v' w') => ha)
      have hne1 : (Value.slice so l.length sc).ownBlock ≠ some (w.heap.size + 1) := fun e => by have := (HBK.out _ e).2; omega
      have HNE := Lib.hid hne1
      clear hne1
      go_wp2_with (at_builtin; go_must (refine wpList_append_row rfl (.tmp 51) (.tmp 54) 22 rfl N 2 i0 _ 1 8 Tryd.underlying22 hi0 hz0 hz1 (by decide) hz2 rfl (.slice so l.length sc) l.length (numV l) rfl HOW.out 1 [.int .i64 a] HSX.out ?l2 ?b2 ?n2 ?_); go_must (case l2 => (unfold maxLen; omega)); go_must (case b2 => omega); go_must (case n2 => exact HBS.out); intro v' w4 ha; have HA := Lib.hid (HAP.out _ _ ha); clear ha; have hr4 := (HA.out.2.1.block (w.heap.size + 1) (by rw [show (w2.alloc (.cells #[.int .i64 a] 2)).heap.size = w2.heap.size + 1 by simp, HW2.out]; omega) (fun e => HNE.out e.symm)).trans ((Below.heap_alloc _ _ _ (by rw [HW2.out]; omega)).trans HRS.out); have HR4 := Lib.hid hr4; have t0 := (cell_of hr4 0).trans rfl; have t1 := (cell_of hr4 1).trans rfl; have t2 := (cell_of hr4 2).trans rfl; have t3 := free_of hr4 0; have t4 := free_of hr4 1; have t5 := free_of hr4 2; clear hr4)
      try simp only [Exit.inBlock, Exit.then]
      have hsz2 : w2.heap.size = w.heap.size + 2 := HW2.out
      obtain ⟨z1, z2, z3⟩ := row_end (M := w.heap.size + 1) (by omega) HB2.out (by omega) HOW.out HA.out HNE.out HR4.out true 0
      exact bodyPost_ret (results_tmp_cell (fn := Tryd.f38) (u := 6) (p := 7) (ty := 26) rfl _ _ _ _ ⟨w.heap.size + 1, 0, none⟩ rfl (load_ans _ (w.heap.size + 1) _ _ _ ((cell_of z1 0).trans rfl) ((cell_of z1 1).trans rfl) ((cell_of z1 2).trans rfl))) rfl ⟨_, rfl, z2, z3⟩
    · by_cases hk3 : k = 3
      · have hF : rowF o l k a = (l, true, (l.length : Int)) := by simp [rowF, hk3]
        subst hk3
        clear hs HR
        go_enter Tryd.func38, Tryd.ntmps38
        go_wp2_with fail
        all_goals (try simp only [Exit.inBlock, Exit.then])
        all_goals (exact fin_row (v := .slice so l.length sc) (r := (l, true, (l.length : Int))) hN rfl rfl rfl _ (.inl rfl) rfl HO.out hF)
      · have hF : rowF o l k a = (l, false, 0) := by simp [rowF, hk1, hk2, hk3]
        have e1 : (k == 1) = false := by rw [beq_eq_false_iff_ne]; exact hk1
        have e2 : (k == 2) = false := by rw [beq_eq_false_iff_ne]; exact hk2
        have e3 : (k == 3) = false := by rw [beq_eq_false_iff_ne]; exact hk3
        clear hs HR
        go_enter Tryd.func38, Tryd.ntmps38
        go_wp2_with fail
        all_goals (try simp only [Exit.inBlock, Exit.then])
        all_goals (exact fin_row (v := .slice so l.length sc) (r := (l, false, 0)) hN rfl rfl rfl _ (.inl rfl) rfl HO.out hF)
end Go.Proofs.YtfcaebceklhbkaaDoor
