/-
  The contract of judge.set: an operation of a set whose numbers rise.
-/
import Derived.Test.YtfcaebceklhbkaaDoorSetL
namespace Go.Proofs.YtfcaebceklhbkaaDoor
open Go.RowKit
set_option linter.unusedVariables false

theorem OwnNums.set26 {N M i : Nat} {w : World} {v x : Value} {l : List Int} {cs : Array Value} (h : OwnNums N w v l) (hr : w.heap[M]? = some (.cells cs 26 (0, 0))) : OwnNums N (w.setCell ⟨M, i, none⟩ x) v l := by
  rcases h with h | ⟨g, p, c, cur, rfl, hg, hb, hc, hs, hx⟩
  · exact .inl h
  · refine .inr ⟨g, p, c, cur, rfl, hg, (Below.heap_setCell _ _ _ _ ?_).trans hb, hc, hs, hx⟩
    rintro (rfl : g = M)
    rw [hb] at hr
    cases hr
theorem fin_op {fn : Func} {u p : Tmp} (hres : fn.results = #[.tmp u, .cell p 26]) {N M : Nat} {w w5 : World} {v A B C : Value} {l : List Int} {ok : Bool} {n : Int} {act : Act} (hd : act.defers = []) (hp : act.tmps.getD p undef = .pointer (some ⟨M, 0, none⟩)) (hu : act.tmps.getD u undef = v)
    (hM : N ≤ M) (hb : Below N w w5) (hr : w5.heap[M]? = some (.cells #[A, B, C] 26 (0, 0))) (hv : OwnNums N w5 v l) (W' : World)
    (hW : W' = ((w5.setCell ⟨M, 0, none⟩ (.bool ok)).setCell ⟨M, 1, none⟩ (.int .i64 n)).setCell ⟨M, 2, none⟩ (.slice none 0 0) ∨ ∃ k, W' = (((w5.setCell ⟨M, 0, none⟩ (.bool ok)).setCell ⟨M, 1, none⟩ (.int .i64 n)).setCell ⟨M, 2, none⟩ (.slice none 0 0)).drewN k) :
    bodyPost Tryd.prog fn (DoneR N (l, ok, n) w) .ret act W' := by
  have e1 := set_at hr 0 (.bool ok)
  have e2 := set_at e1 1 (.int .i64 n)
  have e3 := set_at e2 2 (.slice none 0 0)
  have o3 := ((hv.set26 (i := 0) (x := .bool ok) hr).set26 (i := 1) (x := .int .i64 n) e1).set26 (i := 2) (x := .slice none 0 0) e2
  have b3 := ((hb.setCell (p := ⟨M, 0, none⟩) hM (.bool ok)).setCell (p := ⟨M, 1, none⟩) hM (.int .i64 n)).setCell (p := ⟨M, 2, none⟩) hM (.slice none 0 0)
  generalize ((w5.setCell ⟨M, 0, none⟩ (.bool ok)).setCell ⟨M, 1, none⟩ (.int .i64 n)).setCell ⟨M, 2, none⟩ (.slice none 0 0) = w6 at *
  have e6 : W'.heap[M]? = some (.cells #[.bool ok, .int .i64 n, .slice none 0 0] 26 (0, 0)) := by
    rcases hW with rfl | ⟨k, rfl⟩
    · exact e3
    · exact e3
  have o6 : OwnNums N W' v l := by
    rcases hW with rfl | ⟨k, rfl⟩
    · exact o3
    · exact o3
  have b6 : Below N w W' := by
    rcases hW with rfl | ⟨k, rfl⟩
    · exact b3
    · exact below_drewN b3 k
  obtain ⟨tmps, defers⟩ := act
  subst hd
  have hh := results_tmp_cell (fn := fn) (p := p) (u := u) (ty := 26) hres tmps Tryd.prog W' _ ⟨M, 0, none⟩ hp (load_ans W' M _ _ _ ((cell_of e6 0).trans rfl) ((cell_of e6 1).trans rfl) ((cell_of e6 2).trans rfl))
  rw [hu] at hh
  exact bodyPost_ret hh rfl ⟨v, rfl, o6, b6⟩

/-- An operation of a set whose numbers rise. -/
def setRF (r : List Int) (k a : Int) : List Int × Bool × Int :=
  if k = 1 then (r, decide (a ∈ r), 0) else if k = 2 then (putS a r, !decide (a ∈ r), 0) else if k = 3 then (r.filter (· ≠ a), decide (a ∈ r), 0) else (r, false, 0)
theorem putS_in {r : List Int} {a : Int} (h : Rise r) (ha : a ∈ r) : putS a r = r :=
  rise_eq (putS_rise h) h fun x => by rw [putS_mem_iff h]; exact ⟨fun hx => by rcases hx with e | e; exact e ▸ ha; exact e, .inr⟩
theorem filter_out {r : List Int} {a : Int} (ha : a ∉ r) : r.filter (· ≠ a) = r := by
  rw [List.filter_eq_self]
  intro x hx
  simp
  exact fun e => ha (e ▸ hx)

set_option maxRecDepth 100000 in
set_option maxHeartbeats 8000000 in
theorem set_walk (N sc : Nat) (so : Option Addr) (r : List Int) (k a b c : Int) (w : World) (hN : N ≤ w.heap.size) (hr : Rise r) (hl : r.length ≤ 4000000) (hs : w.ownsRow N 2 1 (.slice so r.length sc) r.length (numV r)) :
    Calls Tryd.prog 40 #[.slice so r.length sc, opV k a b c] w (DoneR N (setRF r k a) w) := by
  have HR := Lib.hid hr
  have HR2 := Lib.hid ((hs.alloc (.cells #[.int .i64 k, .int .i64 a, .int .i64 b, .int .i64 c] 31)).alloc (.cells #[.bool false, .int .i64 0, .slice none 0 0] 26))
  have HB2 : Hid (Below N w ((w.alloc (.cells #[.int .i64 k, .int .i64 a, .int .i64 b, .int .i64 c] 31)).alloc (.cells #[.bool false, .int .i64 0, .slice none 0 0] 26))) := (below_two _ _ _).mono hN
  have hop : ((w.alloc (.cells #[.int .i64 k, .int .i64 a, .int .i64 b, .int .i64 c] 31)).alloc (.cells #[.bool false, .int .i64 0, .slice none 0 0] 26)).heap[w.heap.size]? = some (.cells #[.int .i64 k, .int .i64 a, .int .i64 b, .int .i64 c] 31 (0, 0)) := by
    rw [Below.heap_alloc _ _ _ (by simp)]
    exact heap_alloc_new w _
  have hrs : ((w.alloc (.cells #[.int .i64 k, .int .i64 a, .int .i64 b, .int .i64 c] 31)).alloc (.cells #[.bool false, .int .i64 0, .slice none 0 0] 26)).heap[w.heap.size + 1]? = some (.cells #[.bool false, .int .i64 0, .slice none 0 0] 26 (0, 0)) := by
    have := heap_alloc_new (w.alloc (.cells #[.int .i64 k, .int .i64 a, .int .i64 b, .int .i64 c] 31)) (.cells #[.bool false, .int .i64 0, .slice none 0 0] 26)
    simpa using this
  have hw2 : ((w.alloc (.cells #[.int .i64 k, .int .i64 a, .int .i64 b, .int .i64 c] 31)).alloc (.cells #[.bool false, .int .i64 0, .slice none 0 0] 26)).heap.size = w.heap.size + 2 := by simp
  have HOP := Lib.hid hop
  have HRS := Lib.hid hrs
  have HW2 := Lib.hid hw2
  have HNE : Hid ((Value.slice so r.length sc).ownBlock ≠ some (w.heap.size + 1)) := fun e => by have := (row_block hs e).2; omega
  have HLT : Hid (∀ g, (Value.slice so r.length sc).ownBlock = some g → g < w.heap.size) := fun g e => (row_block hs e).2
  clear hs hr hop hrs hw2
  unfold opV
  go_enter Tryd.func40, Tryd.ntmps40
  go_wp2_with fail
  generalize (w.alloc (.cells #[.int .i64 k, .int .i64 a, .int .i64 b, .int .i64 c] 31)).alloc (.cells #[.bool false, .int .i64 0, .slice none 0 0] 26) = w2 at *
  obtain ⟨D, hD⟩ : ∃ D, decide (a ∈ r) = D := ⟨_, rfl⟩
  have HD := Lib.hid hD
  have h57 : Calls Tryd.prog 57 #[.slice so r.length sc, .int .i64 a] w2 fun e w' => e = .returned (.tuple #[.int .i64 (below r a : Nat), .bool D]) ∧ ∃ q, w' = w2.drewN q := by
    rw [← hD]
    exact search_row N sc so r a w2 hl HR.out HR2.out
  clear hD
  refine h57.mono ?_
  clear h57
  rintro e w3 ⟨rfl, q, rfl⟩
  have HR3 : Hid ((w2.drewN q).ownsRow N 2 1 (.slice so r.length sc) r.length (numV r)) := HR2.out
  have HB3 : Hid (Below N w (w2.drewN q)) := below_drewN HB2.out q
  have hop3 : (w2.drewN q).heap[w.heap.size]? = some (.cells #[.int .i64 k, .int .i64 a, .int .i64 b, .int .i64 c] 31 (0, 0)) := HOP.out
  have hrs3 : (w2.drewN q).heap[w.heap.size + 1]? = some (.cells #[.bool false, .int .i64 0, .slice none 0 0] 26 (0, 0)) := HRS.out
  have hw3 : (w2.drewN q).heap.size = w.heap.size + 2 := HW2.out
  have HRS3 := Lib.hid hrs3
  have HW3 := Lib.hid hw3
  have c0 := (cell_of hop3 0).trans rfl
  have c1 := (cell_of hop3 1).trans rfl
  have t0 := (cell_of hrs3 0).trans rfl
  have t1 := (cell_of hrs3 1).trans rfl
  have t2 := (cell_of hrs3 2).trans rfl
  have t3 := free_of hrs3 0
  have t4 := free_of hrs3 1
  have t5 := free_of hrs3 2
  clear hop3 hrs3 hw3 HR2 HB2 HOP HRS HW2
  generalize w2.drewN q = w3 at *
  have HO3 := Lib.hid (owned_nums HR3.out)
  by_cases hk1 : k = 1
  · have hF := Lib.hid (show setRF r k a = (r, D, 0) from by rw [← HD.out]; simp [setRF, hk1])
    subst hk1
    go_wp2_with fail
    all_goals (try simp only [Exit.inBlock, Exit.then])
    rw [hF.out]
    exact fin_op (fn := Tryd.f40) (u := 4) (p := 5) (v := .slice so r.length sc) rfl rfl rfl rfl (by omega) HB3.out HRS3.out HO3.out _ (.inl rfl)
  · have e1 : (k == 1) = false := by rw [beq_eq_false_iff_ne]; exact hk1
    by_cases hk2 : k = 2
    · subst hk2
      cases D with
      | true =>
        have ha : a ∈ r := of_decide_eq_true HD.out
        have hF := Lib.hid (show setRF r 2 a = (r, false, 0) from by simp [setRF, ha, putS_in HR.out ha])
        clear ha
        go_wp2_with fail
        all_goals (try simp only [Exit.inBlock, Exit.then])
        rw [hF.out]
        exact fin_op (fn := Tryd.f40) (u := 4) (p := 5) (v := .slice so r.length sc) rfl rfl rfl rfl (by omega) HB3.out HRS3.out HO3.out _ (.inl rfl)
      | false =>
        have ha : a ∉ r := of_decide_eq_false HD.out
        have hF := Lib.hid (show setRF r 2 a = (insF r (below r a) a, true, 0) from by simp [setRF, ha, insF_put HR.out ha])
        have HA4 := Lib.hid (heap_alloc_new w3 (.cells #[.int .i64 a] 2))
        have HR4 := Lib.hid (HR3.out.alloc (.cells #[.int .i64 a] 2))
        have HNE4 : Hid ((Value.slice so r.length sc).ownBlock ≠ some w3.heap.size) := fun e => by have := HLT.out _ e; have := HW3.out; omega
        have hbl : below r a ≤ r.length := below_le r a
        clear ha
        go_wp2_with fail
        refine (insert_walk N sc (below r a) w3.heap.size so a r _ hl hbl HR4.out (by have := HW3.out; simp; omega) HNE4.out HA4.out).mono ?_
        rintro e w5 ⟨v5, rfl, ho5, hb5, hg5⟩
        have HO5 := Lib.hid ho5
        have HB5 : Hid (Below N w w5) := (HB3.out.alloc (by have := HW3.out; omega) _).trans hb5
        have hb5x : w5.heap[w.heap.size + 1]? = some (.cells #[.bool false, .int .i64 0, .slice none 0 0] 26 (0, 0)) :=
          (hg5.block _ (by have := HW3.out; simp; omega) (fun e => HNE.out e.symm)).trans ((Below.heap_alloc _ _ _ (by have := HW3.out; omega)).trans HRS3.out)
        have HRS5 := Lib.hid hb5x
        have s0 := (cell_of hb5x 0).trans rfl
        have s1 := (cell_of hb5x 1).trans rfl
        have s2 := (cell_of hb5x 2).trans rfl
        have s3 := free_of hb5x 0
        have s4 := free_of hb5x 1
        have s5 := free_of hb5x 2
        clear hb5x ho5 hb5 hg5 t0 t1 t2 t3 t4 t5
        go_wp2_with fail
        all_goals (try simp only [Exit.inBlock, Exit.then])
        rw [hF.out]
        exact fin_op (fn := Tryd.f40) (u := 4) (p := 5) (v := v5) rfl rfl rfl rfl (by omega) HB5.out HRS5.out HO5.out _ (.inl rfl)
    · have e2 : (k == 2) = false := by rw [beq_eq_false_iff_ne]; exact hk2
      by_cases hk3 : k = 3
      · subst hk3
        cases D with
        | false =>
          have ha : a ∉ r := of_decide_eq_false HD.out
          have hF := Lib.hid (show setRF r 3 a = (r, false, 0) from by simp [setRF, ha]; exact fun x hx e => ha (e ▸ hx))
          clear ha
          go_wp2_with fail
          all_goals (try simp only [Exit.inBlock, Exit.then])
          rw [hF.out]
          exact fin_op (fn := Tryd.f40) (u := 4) (p := 5) (v := .slice so r.length sc) rfl rfl rfl rfl (by omega) HB3.out HRS3.out HO3.out _ (.inl rfl)
        | true =>
          have ha : a ∈ r := of_decide_eq_true HD.out
          have hlt := (below_at HR.out ha).1
          have hF := Lib.hid (show setRF r 3 a = (r.take (below r a) ++ r.drop (below r a + 1), true, 0) from by rw [del_filter HR.out ha]; simp [setRF, ha])
          clear ha
          go_wp2_with fail
          refine (delete_row N sc (below r a) so r w3 hl hlt HR3.out).mono ?_
          rintro e w5 ⟨v5, rfl, ho5, hb5, hg5⟩
          have HO5 := Lib.hid ho5
          have HB5 : Hid (Below N w w5) := HB3.out.trans hb5
          have hb5x : w5.heap[w.heap.size + 1]? = some (.cells #[.bool false, .int .i64 0, .slice none 0 0] 26 (0, 0)) :=
            (hg5.block _ (by have := HW3.out; omega) (fun e => HNE.out e.symm)).trans HRS3.out
          have HRS5 := Lib.hid hb5x
          have s0 := (cell_of hb5x 0).trans rfl
          have s1 := (cell_of hb5x 1).trans rfl
          have s2 := (cell_of hb5x 2).trans rfl
          have s3 := free_of hb5x 0
          have s4 := free_of hb5x 1
          have s5 := free_of hb5x 2
          clear hb5x ho5 hb5 hg5 t0 t1 t2 t3 t4 t5
          go_wp2_with fail
          all_goals (try simp only [Exit.inBlock, Exit.then])
          rw [hF.out]
          exact fin_op (fn := Tryd.f40) (u := 4) (p := 5) (v := v5) rfl rfl rfl rfl (by omega) HB5.out HRS5.out HO5.out _ (.inl rfl)
      · have e3 : (k == 3) = false := by rw [beq_eq_false_iff_ne]; exact hk3
        have hF := Lib.hid (show setRF r k a = (r, false, 0) from by simp [setRF, hk1, hk2, hk3])
        go_wp2_with fail
        all_goals (try simp only [Exit.inBlock, Exit.then])
        rw [hF.out]
        exact fin_op (fn := Tryd.f40) (u := 4) (p := 5) (v := .slice so r.length sc) rfl rfl rfl rfl (by omega) HB3.out HRS3.out HO3.out _ (.inl rfl)
end Go.Proofs.YtfcaebceklhbkaaDoor
