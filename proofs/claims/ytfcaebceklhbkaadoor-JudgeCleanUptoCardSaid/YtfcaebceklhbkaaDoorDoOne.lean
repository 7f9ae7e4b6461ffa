/-
  The contract of judge.Do for a register and a counter.
-/
import Derived.Test.YtfcaebceklhbkaaDoorSameA
import Derived.Deep.RegionHeld3
import Derived.Deep.DeepCutAuto
namespace Go.Proofs.YtfcaebceklhbkaaDoor
open Go.RowKit
set_option linter.unusedVariables false

theorem ans_kept {w3 w' : World} (hb : Below (w3.alloc (.cells #[.bool false, .int .i64 0, .slice none 0 0] 26)).drew.heap.size (w3.alloc (.cells #[.bool false, .int .i64 0, .slice none 0 0] 26)).drew w') :
    w'.heap[w3.heap.size]? = some (.cells #[.bool false, .int .i64 0, .slice none 0 0] 26 (0, 0)) := (hb.block _ (by show w3.heap.size < (w3.alloc _).heap.size; simp)).trans (heap_alloc_new w3 _)
/-- Behind the statement 'v, a := single(..)': where a lies. -/
def AnsAt (w3 : World) (ok : Bool) (n : Int) (p : Value) (wx : World) : Prop :=
  ∃ g, p = .pointer (some ⟨g, 0, none⟩) ∧ wx.heap[g]? = some (.cells #[.bool ok, .int .i64 n, .slice none 0 0] 26 (0, 0)) ∧ w3.heap.size ≤ g ∧ Below w3.heap.size w3 wx
theorem ansA {w3 w' : World} {ok : Bool} {n : Int} (hb : Below w3.drew.heap.size w3.drew w') : AnsAt w3 ok n (.pointer (some ⟨w'.heap.size, 0, none⟩)) (w'.alloc (.cells #[.bool ok, .int .i64 n, .slice none 0 0] 26)) := by
  have hs : w3.heap.size ≤ w'.heap.size := hb.size
  have hb' : Below w3.heap.size w3 w' := (Below.refl _ _).drew.trans hb
  exact ⟨_, rfl, heap_alloc_new w' _, hs, hb'.alloc hs _⟩
theorem ansB {w3 w' : World} {ok : Bool} {n : Int} (hb : Below (w3.alloc (.cells #[.bool false, .int .i64 0, .slice none 0 0] 26)).drew.heap.size (w3.alloc (.cells #[.bool false, .int .i64 0, .slice none 0 0] 26)).drew w') :
    AnsAt w3 ok n (.pointer (some ⟨w3.heap.size, 0, none⟩)) (((w'.setCell ⟨w3.heap.size, 0, none⟩ (.bool ok)).setCell ⟨w3.heap.size, 1, none⟩ (.int .i64 n)).setCell ⟨w3.heap.size, 2, none⟩ (.slice none 0 0)) := by
  have hk := ans_kept hb
  have hb' : Below w3.heap.size w3 w' := (((Below.refl _ _).alloc (Nat.le_refl _) _).drew).trans (hb.mono (by show w3.heap.size ≤ (w3.alloc _).heap.size; simp))
  refine ⟨_, rfl, ?_, Nat.le_refl _, ((hb'.setCell (Nat.le_refl _) _).setCell (Nat.le_refl _) _).setCell (Nat.le_refl _) _⟩
  have e1 := set_at hk 0 (.bool ok)
  have e2 := set_at e1 1 (.int .i64 n)
  exact set_at e2 2 (.slice none 0 0)
/-- What Do answers: a row of the call's own, and an answer without a list. -/
def DoneD (r : List Int × Bool × Int) (w : World) (e : Ending) (w' : World) : Prop := ∃ v, e = .returned (.tuple #[v, ansV r.2.1 r.2.2]) ∧ OwnNums w.heap.size w' v r.1 ∧ Below w.heap.size w w'

theorem do_end (w wc : World) (N : Nat) (x1 n : Int) (ok : Bool) (A B C : Value) (hr : wc.heap[N + 1]? = some (.cells #[A, B, C] 26 (0, 0))) (hb : Below N w wc) (hN : N + 1 < wc.heap.size) :
    ((((wc.alloc (.cells #[.int .i64 x1] 2)).setCell ⟨N + 1, 0, none⟩ (.bool ok)).setCell ⟨N + 1, 1, none⟩ (.int .i64 n)).setCell ⟨N + 1, 2, none⟩ (.slice none 0 0)).drew.heap[N + 1]? = some (.cells #[.bool ok, .int .i64 n, .slice none 0 0] 26 (0, 0)) ∧
    OwnNums N ((((wc.alloc (.cells #[.int .i64 x1] 2)).setCell ⟨N + 1, 0, none⟩ (.bool ok)).setCell ⟨N + 1, 1, none⟩ (.int .i64 n)).setCell ⟨N + 1, 2, none⟩ (.slice none 0 0)).drew (.slice (some ⟨wc.heap.size, 0, none⟩) 1 1) [x1] ∧
    Below N w ((((wc.alloc (.cells #[.int .i64 x1] 2)).setCell ⟨N + 1, 0, none⟩ (.bool ok)).setCell ⟨N + 1, 1, none⟩ (.int .i64 n)).setCell ⟨N + 1, 2, none⟩ (.slice none 0 0)).drew := by
  have hr2 : (wc.alloc (.cells #[.int .i64 x1] 2)).heap[N + 1]? = some (.cells #[A, B, C] 26 (0, 0)) := (Below.heap_alloc _ _ _ hN).trans hr
  have hn2 : (wc.alloc (.cells #[.int .i64 x1] 2)).heap[wc.heap.size]? = some (.cells #[.int .i64 x1] 2 (0, 0)) := heap_alloc_new wc _
  have hb2 := hb.alloc (show N ≤ wc.heap.size by omega) (.cells #[.int .i64 x1] 2)
  generalize wc.alloc (.cells #[.int .i64 x1] 2) = w2 at *
  have e1 := set_at hr2 0 (.bool ok)
  have e2 := set_at e1 1 (.int .i64 n)
  refine ⟨set_at e2 2 (.slice none 0 0), .inr ⟨wc.heap.size, 0, 1, #[.int .i64 x1], rfl, by omega, ?_, Nat.le_refl _, Nat.le_refl _, ?_⟩, ?_⟩
  · have g : ∀ (W : World) (i : Nat) (v : Value), W.heap[wc.heap.size]? = some (.cells #[.int .i64 x1] 2 (0, 0)) → (W.setCell ⟨N + 1, i, none⟩ v).heap[wc.heap.size]? = some (.cells #[.int .i64 x1] 2 (0, 0)) := fun W i v h =>
      (Below.heap_setCell _ _ _ _ (by show wc.heap.size ≠ N + 1; omega)).trans h
    exact g _ _ _ (g _ _ _ (g _ _ _ hn2))
  · intro i hi
    have : i = 0 := by simpa using hi
    subst this
    rfl
  · exact (((hb2.setCell (by show N ≤ N + 1; omega) _).setCell (by show N ≤ N + 1; omega) _).setCell (by show N ≤ N + 1; omega) _).drew

set_option maxRecDepth 100000 in
set_option maxHeartbeats 8000000 in
theorem doOne_walk (o : Int) (ho : o = 1 ∨ o = 2) (v : Value) (l : List Int) (k a b c : Int) (w : World) (h : Nums w v l) (hl : l.length ≤ 4000000) :
    Calls Tryd.prog 12 #[.int .i64 o, v, opV k a b c] w (DoneD ([(singleF o (l.headD 0) k a b).1], (singleF o (l.headD 0) k a b).2) w) := by
  have HB2 : Hid (Below w.heap.size w ((w.alloc (.cells #[.int .i64 k, .int .i64 a, .int .i64 b, .int .i64 c] 31)).alloc (.cells #[.bool false, .int .i64 0, .slice none 0 0] 26))) := below_two _ _ _
  have HNU := Lib.hid (h.below HB2.out)
  have hw2 : ((w.alloc (.cells #[.int .i64 k, .int .i64 a, .int .i64 b, .int .i64 c] 31)).alloc (.cells #[.bool false, .int .i64 0, .slice none 0 0] 26)).heap.size = w.heap.size + 2 := by simp
  have hop : ((w.alloc (.cells #[.int .i64 k, .int .i64 a, .int .i64 b, .int .i64 c] 31)).alloc (.cells #[.bool false, .int .i64 0, .slice none 0 0] 26)).heap[w.heap.size]? = some (.cells #[.int .i64 k, .int .i64 a, .int .i64 b, .int .i64 c] 31 (0, 0)) := by
    rw [Below.heap_alloc _ _ _ (by simp)]
    exact heap_alloc_new w _
  have hrs : ((w.alloc (.cells #[.int .i64 k, .int .i64 a, .int .i64 b, .int .i64 c] 31)).alloc (.cells #[.bool false, .int .i64 0, .slice none 0 0] 26)).heap[w.heap.size + 1]? = some (.cells #[.bool false, .int .i64 0, .slice none 0 0] 26 (0, 0)) := by
    have := heap_alloc_new (w.alloc (.cells #[.int .i64 k, .int .i64 a, .int .i64 b, .int .i64 c] 31)) (.cells #[.bool false, .int .i64 0, .slice none 0 0] 26)
    simpa using this
  have HOP := Lib.hid hop
  have HRS := Lib.hid hrs
  have HW2 := Lib.hid hw2
  have H36 : Hid (∀ W, Calls Tryd.prog 36 #[.int .i64 o, .int .i64 (l.headD 0), .agg #[.int .i64 k, .int .i64 a, .int .i64 b, .int .i64 c]] W fun e w' =>
      e = .returned (.tuple #[.int .i64 (singleF o (l.headD 0) k a b).1, .agg #[.bool (singleF o (l.headD 0) k a b).2.1, .int .i64 (singleF o (l.headD 0) k a b).2.2, .slice none 0 0]]) ∧ Below W.heap.size W w') := fun W => single_walk o _ k a b c W
  clear h hop hrs hw2
  unfold opV at *
  go_enter Tryd.func12, Tryd.ntmps12
  go_wp2_with fail
  generalize (w.alloc (.cells #[.int .i64 k, .int .i64 a, .int .i64 b, .int .i64 c] 31)).alloc (.cells #[.bool false, .int .i64 0, .slice none 0 0] 26) = w2 at *
  generalize hN : w.heap.size = N at *
  have HN := Lib.hid hN
  clear hN
  refine (clone_walk v l w2 HNU.out hl).mono ?_
  rintro e w3 ⟨s, rfl, hs, hb3⟩
  have HS := Lib.hid hs
  have hsz : w2.heap.size ≤ w3.heap.size := hb3.size
  rw [HW2.out] at hsz
  have HB3 := Lib.hid hb3
  have hop3 : w3.heap[N]? = some (.cells #[.int .i64 k, .int .i64 a, .int .i64 b, .int .i64 c] 31 (0, 0)) := (hb3.block N (by rw [HW2.out]; omega)).trans HOP.out
  have hrs3 : w3.heap[N + 1]? = some (.cells #[.bool false, .int .i64 0, .slice none 0 0] 26 (0, 0)) := (hb3.block (N + 1) (by rw [HW2.out]; omega)).trans HRS.out
  have HOP3 := Lib.hid hop3
  have HRS3 := Lib.hid hrs3
  have c0 : w3.cell? ⟨N, 0, none⟩ = some (.int .i64 k) := by rw [cell_of hop3]; rfl
  have c1 : w3.cell? ⟨N, 1, none⟩ = some (.int .i64 a) := by rw [cell_of hop3]; rfl
  have c2 : w3.cell? ⟨N, 2, none⟩ = some (.int .i64 b) := by rw [cell_of hop3]; rfl
  have c3 : w3.cell? ⟨N, 3, none⟩ = some (.int .i64 c) := by rw [cell_of hop3]; rfl
  have d0 : ∀ o, (w3.alloc o).cell? ⟨N, 0, none⟩ = some (.int .i64 k) := fun o => (World.cell?_of_block (Below.heap_alloc _ _ _ (by show N < _; omega))).trans c0
  have d1 : ∀ o, (w3.alloc o).cell? ⟨N, 1, none⟩ = some (.int .i64 a) := fun o => (World.cell?_of_block (Below.heap_alloc _ _ _ (by show N < _; omega))).trans c1
  have d2 : ∀ o, (w3.alloc o).cell? ⟨N, 2, none⟩ = some (.int .i64 b) := fun o => (World.cell?_of_block (Below.heap_alloc _ _ _ (by show N < _; omega))).trans c2
  have d3 : ∀ o, (w3.alloc o).cell? ⟨N, 3, none⟩ = some (.int .i64 c) := fun o => (World.cell?_of_block (Below.heap_alloc _ _ _ (by show N < _; omega))).trans c3
  clear hs hb3 hop3 hrs3
  have H37 := Lib.hid (fun W h => number_walk s l W h hl)
  generalize hx : singleF o (l.headD 0) k a b = x at *
  generalize l.headD 0 = x0 at *
  rcases ho with rfl | rfl
  all_goals
    go_wp2_with fail
    go_cut [9, 10] (fun y p wx => y = .int .i64 x.1 ∧ AnsAt w3 x.2.1 x.2.2 p wx)
    case first =>
      go_region_with (first
        | (go_at_call 37; refine (H37.out _ ?_).mono ?_; (first | exact HS.out.nums | exact HS.out.nums.below (((Below.refl _ _).alloc (Nat.le_refl _) _).drew)); rintro e w' ⟨rfl, rfl⟩)
        | (go_at_call 36; refine (H36.out _).mono ?_; rintro e w' ⟨rfl, hb⟩; try (have hk := ans_kept hb; have k0 := (cell_of hk 0).trans rfl; have k1 := (cell_of hk 1).trans rfl; have k2 := (cell_of hk 2).trans rfl; have k3 := free_of hk 0; have k4 := free_of hk 1; have k5 := free_of hk 2; have HK := Lib.hid hk; clear hk)))
      all_goals (go_wp2_with fail; go_meet)
      all_goals (first | exact ⟨rfl, ansA hb⟩ | exact ⟨rfl, ansB hb⟩)
    case rest =>
      obtain ⟨rfl, g, rfl, hg, hgs, hbx⟩ := hcut
      have HG := Lib.hid hg
      have HBX := Lib.hid hbx
      have hr : wc.heap[N + 1]? = some (.cells #[.bool false, .int .i64 0, .slice none 0 0] 26 (0, 0)) := (hbx.block _ (by omega)).trans HRS3.out
      have HR := Lib.hid hr
      have e0 := (cell_of hg 0).trans rfl
      have e1 := (cell_of hg 1).trans rfl
      have e2 := (cell_of hg 2).trans rfl
      have f0 : ∀ o, (wc.alloc o).cell? ⟨g, 0, none⟩ = some (.bool x.2.1) := fun o => (World.cell?_of_block (Below.heap_alloc _ _ _ (World.block_lt_of_cell? _ _ e0))).trans e0
      have f1 : ∀ o, (wc.alloc o).cell? ⟨g, 1, none⟩ = some (.int .i64 x.2.2) := fun o => (World.cell?_of_block (Below.heap_alloc _ _ _ (World.block_lt_of_cell? _ _ e1))).trans e1
      have f2 : ∀ o, (wc.alloc o).cell? ⟨g, 2, none⟩ = some (.slice none 0 0) := fun o => (World.cell?_of_block (Below.heap_alloc _ _ _ (World.block_lt_of_cell? _ _ e2))).trans e2
      have k0 : wc.cell? ⟨N + 1, 0, none⟩ = some (.bool false) := (cell_of hr 0).trans rfl
      have k1 : wc.cell? ⟨N + 1, 1, none⟩ = some (.int .i64 0) := (cell_of hr 1).trans rfl
      have k2 : wc.cell? ⟨N + 1, 2, none⟩ = some (.slice none 0 0) := (cell_of hr 2).trans rfl
      have k3 := free_of hr 0
      have k4 := free_of hr 1
      have k5 := free_of hr 2
      have q0 : ∀ o, (wc.alloc o).cell? ⟨N + 1, 0, none⟩ = some (.bool false) := fun o => (World.cell?_of_block (Below.heap_alloc _ _ _ (World.block_lt_of_cell? _ _ k0))).trans k0
      have q1 : ∀ o, (wc.alloc o).cell? ⟨N + 1, 1, none⟩ = some (.int .i64 0) := fun o => (World.cell?_of_block (Below.heap_alloc _ _ _ (World.block_lt_of_cell? _ _ k1))).trans k1
      have q2 : ∀ o, (wc.alloc o).cell? ⟨N + 1, 2, none⟩ = some (.slice none 0 0) := fun o => (World.cell?_of_block (Below.heap_alloc _ _ _ (World.block_lt_of_cell? _ _ k2))).trans k2
      have q3 : ∀ o, (wc.alloc o).frozen? ⟨N + 1, 0, none⟩ = false := fun o => (World.frozen?_of_block (Below.heap_alloc _ _ _ (World.block_lt_of_cell? _ _ k0))).trans k3
      have q4 : ∀ o, (wc.alloc o).frozen? ⟨N + 1, 1, none⟩ = false := fun o => (World.frozen?_of_block (Below.heap_alloc _ _ _ (World.block_lt_of_cell? _ _ k1))).trans k4
      have q5 : ∀ o, (wc.alloc o).frozen? ⟨N + 1, 2, none⟩ = false := fun o => (World.frozen?_of_block (Below.heap_alloc _ _ _ (World.block_lt_of_cell? _ _ k2))).trans k5
      clear hg hbx hr
      go_wp2_with fail
      go_region
      all_goals (go_wp2_with fail)
      try simp only [Exit.inBlock, Exit.then]
      obtain ⟨z1, z2, z3⟩ := do_end w wc N x.1 x.2.2 x.2.1 _ _ _ HR.out (HB2.out.trans ((HB3.out.mono (by rw [HW2.out]; omega)).trans (HBX.out.mono (by omega)))) (by have := HBX.out.size; omega)
      refine bodyPost_ret (results_tmp_cell (fn := Tryd.f12) (u := 6) (p := 7) (ty := 26) rfl _ _ _ _ ⟨N + 1, 0, none⟩ rfl (load_ans _ (N + 1) _ _ _ ((cell_of z1 0).trans rfl) ((cell_of z1 1).trans rfl) ((cell_of z1 2).trans rfl))) rfl ⟨_, rfl, ?_, ?_⟩
      · rw [HN.out]
        exact z2
      · rw [HN.out]
        exact z3
end Go.Proofs.YtfcaebceklhbkaaDoor
