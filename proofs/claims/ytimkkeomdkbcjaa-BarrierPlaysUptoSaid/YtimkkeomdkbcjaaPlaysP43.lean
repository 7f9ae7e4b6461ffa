/-
  Merged out of: Seven1. No condition of its own.
-/
import Derived.Test.YtimkkeomdkbcjaaPlaysP32
import Derived.Test.YtimkkeomdkbcjaaPlaysP38
import Derived.Test.YtimkkeomdkbcjaaPlaysP37
import Derived.Test.YtimkkeomdkbcjaaPlaysP42
set_option linter.unusedVariables false
set_option linter.unusedSimpArgs false
/-
  BarrierPlays (f7), walked beside goroutines that only leave. No condition of its own.
-/
namespace Go.Proofs.Ytimkkeomdkbcjaa
open Go.Conc Go.RowKit
open Go.ConcN renaming upd → updN
open Go.ConcN (upd_ne upd_same)
theorem rm_op {Z : Machine → Trace → Prop} {b : Frame} {a : Act} {k : List Item} {cs : List Frame} {w : World} {ops : Array Oper} {i : Nat} {rest : List Nat} {o : Oper} {v : Value} (ho : ops[i]? = some o) (hw : Region.wanted o (yielded ops a.tmps) = true) (hk : b.kind ≠ .early)
    (hc : CalmOp true Try.prog (fun _ => False) o) (hr : (execOp a.eval o).run Try.prog w = .ok (.value v) w)
    (h : ∀ w1, Low w w1 → w1.heap = w.heap → RM Try.prog Z (G (b.at (a.put o.dst v) (.inRegion ops rest :: k)) cs) w1) : RM Try.prog Z (G (b.at a (.inRegion ops (i :: rest) :: k)) cs) w :=
  x_op rm_xc (none_seats w) ho hw hk hc (n := .value v) (.inl rfl) (by rw [poi_none]; exact hr) rfl fun d w1 e _ _ => by
    rw [poi_none] at e
    subst e
    exact h _ ⟨Nat.le_refl _, fun _ _ => rfl, rfl, rfl⟩ rfl
def A7 (x : Nat → Value) : Act := ⟨#[x 0, x 1, x 2, x 3, x 4, x 5, x 6, x 7, x 8, x 9, x 10, x 11, x 12, x 13, x 14, x 15, x 16, x 17, x 18, x 19, x 20, x 21, x 22, x 23], []⟩
theorem a7_lit (l : Array Value) (hl : l.size = 24) : (⟨l, []⟩ : Act) = A7 fun j => l.getD j undef := by
  have e : ∀ x : Nat → Value, (A7 x).tmps = ((List.range 24).map x).toArray := fun x => rfl
  have h1 : l = (A7 fun j => l.getD j undef).tmps := by
    rw [e]
    apply Array.ext_getElem?
    intro i
    by_cases h : i < 24
    · have h' : i < l.size := by omega
      simp [h, h', List.getElem?_range]
    · have h' : ¬ i < l.size := by omega
      rw [Array.getElem?_eq_none (by omega), Array.getElem?_eq_none (by simp; omega)]
  exact congrArg (Act.mk · []) h1
def lowB (ops : Array Oper) : Bool := (List.range ops.size).all fun i => match ops[i]? with
  | some o => o.after.all fun e => decide (e.on < i)
  | none => true
theorem low_of {ops : Array Oper} (h : lowB ops = true) : ∀ (i : Nat) (o : Oper), ops[i]? = some o → ∀ e ∈ o.after, e.on < i := fun i o ho e he => by
  have h1 := List.all_eq_true.1 h i (List.mem_range.2 (Array.getElem?_eq_some_iff.1 ho).1)
  rw [ho] at h1
  exact of_decide_eq_true (Array.all_eq_true_iff_forall_mem.1 h1 e he)
def tv7 (BX : Nat) (vw vt vs mv : Value) : Nat → Option Value
  | 0 => some (.pointer (some ⟨BX, 0, none⟩)) | 1 => some vw | 2 => some (.pointer (some ⟨BX, 1, none⟩)) | 3 => some vt
  | 4 => some (.pointer (some ⟨BX, 2, none⟩)) | 5 => some vs | 6 => some (.pointer (some ⟨BX, 3, none⟩)) | 7 => some mv
  | 9 => some (.pointer (some ⟨BX, 0, none⟩)) | 10 => some vw | 11 => some (.pointer (some ⟨BX, 1, none⟩)) | 12 => some vt
  | 13 => some (.pointer (some ⟨BX, 2, none⟩)) | 14 => some vs | 15 => some (.pointer (some ⟨BX, 3, none⟩)) | 16 => some mv
  | _ => none
theorem tv7_at {BX : Nat} {vw vt vs mv v : Value} : ∀ {j : Nat}, tv7 BX vw vt vs mv j = some v → j ≤ 16 ∧ j ≠ 8
  | 0, _ | 1, _ | 2, _ | 3, _ | 4, _ | 5, _ | 6, _ | 7, _ | 9, _ | 10, _ | 11, _ | 12, _ | 13, _ | 14, _ | 15, _ | 16, _ => by omega
  | 8, h => by cases h
  | n + 17, h => by cases h
structure I7 (W : World) (BX : Nat) (vw vt vs mv : Value) (T : Tr) (listed : Array Bool) (x : Nat → Value) (w : World) : Prop where
  x1 : x 1 = .pointer (some ⟨BX, 0, none⟩)
  low : Low W w
  bx : w.heap[BX]? = some (.cells #[vw, vt, vs, mv] 59 (0, 0))
  sl : ∀ j v, tv7 BX vw vt vs mv j = some v → listed.getD j false = true → x (j + 5) = v
  a : listed.getD 8 false = true → TrIn w (x 13) T
  b : listed.getD 17 false = true → TrIn w (x 22) T ∧ TrSmall T
  c : listed.getD 18 false = true → x 23 = .bool true
  d : listed.getD 19 false = true → x 2 = .bool true
theorem getD_set {listed : Array Bool} {i j : Nat} (h : (listed.setIfInBounds i true).getD j false = true) : j = i ∨ listed.getD j false = true := by
  by_cases e : j = i
  · exact .inl e
  · refine .inr ?_
    simp only [Array.getD, Array.size_setIfInBounds] at h ⊢
    split at h
    · rename_i hj
      rw [dif_pos hj]
      simp only [Array.getInternal_eq_getElem] at h ⊢
      rw [Array.getElem_setIfInBounds_ne _ (fun z => e z.symm)] at h
      exact h
    · cases h
section
variable {W : World} {BX : Nat} {vw vt vs mv : Value} {T : Tr} {listed : Array Bool} {x : Nat → Value} {w w1 : World}
theorem I7.grow (h : I7 W BX vw vt vs mv T listed x w) (hl : Low w w1) : I7 W BX vw vt vs mv T listed x w1 :=
  ⟨h.x1, h.low.trans hl, (hl.2.1 BX (Array.getElem?_eq_some_iff.1 h.bx).1).trans h.bx, h.sl, fun z => (h.a z).keep hl.2.1, fun z => ⟨(h.b z).1.keep hl.2.1, (h.b z).2⟩, h.c, h.d⟩
theorem I7.tab (h : I7 W BX vw vt vs mv T listed x w) {i : Nat} {v : Value} (hi : tv7 BX vw vt vs mv i = some v) : I7 W BX vw vt vs mv T (listed.setIfInBounds i true) (updN x (i + 5) v) w := by
  obtain ⟨i1, i2⟩ := tv7_at hi
  refine ⟨?_, h.low, h.bx, fun j u hj hl => ?_, fun z => ?_, fun z => ?_, fun z => ?_, fun z => ?_⟩
  · rw [upd_ne _ _ (by omega)]; exact h.x1
  · by_cases e : j = i
    · subst e
      rw [hi] at hj
      rw [upd_same]
      exact Option.some.inj hj
    · rw [upd_ne _ _ (by omega)]
      exact h.sl j u hj ((getD_set hl).resolve_left e)
  · rw [upd_ne _ _ (by omega)]; exact h.a ((getD_set z).resolve_left (by omega))
  · rw [upd_ne _ _ (by omega)]; exact h.b ((getD_set z).resolve_left (by omega))
  · rw [upd_ne _ _ (by omega)]; exact h.c ((getD_set z).resolve_left (by omega))
  · rw [upd_ne _ _ (by omega)]; exact h.d ((getD_set z).resolve_left (by omega))
theorem I7.put8 (h : I7 W BX vw vt vs mv T listed x w) {v : Value} (hv : TrIn w v T) : I7 W BX vw vt vs mv T (listed.setIfInBounds 8 true) (updN x 13 v) w := by
  refine ⟨?_, h.low, h.bx, fun j u hj hl => ?_, fun z => ?_, fun z => ?_, fun z => ?_, fun z => ?_⟩
  · rw [upd_ne _ _ (by omega)]; exact h.x1
  · obtain ⟨i1, i2⟩ := tv7_at hj
    rw [upd_ne _ _ (by omega)]
    exact h.sl j u hj ((getD_set hl).resolve_left i2)
  · rw [upd_same]; exact hv
  · rw [upd_ne _ _ (by omega)]; exact h.b ((getD_set z).resolve_left (by omega))
  · rw [upd_ne _ _ (by omega)]; exact h.c ((getD_set z).resolve_left (by omega))
  · rw [upd_ne _ _ (by omega)]; exact h.d ((getD_set z).resolve_left (by omega))
theorem I7.put17 (h : I7 W BX vw vt vs mv T listed x w) {v : Value} (hv : TrIn w v T ∧ TrSmall T) : I7 W BX vw vt vs mv T (listed.setIfInBounds 17 true) (updN x 22 v) w := by
  refine ⟨?_, h.low, h.bx, fun j u hj hl => ?_, fun z => ?_, fun z => ?_, fun z => ?_, fun z => ?_⟩
  · rw [upd_ne _ _ (by omega)]; exact h.x1
  · obtain ⟨i1, i2⟩ := tv7_at hj
    rw [upd_ne _ _ (by omega)]
    exact h.sl j u hj ((getD_set hl).resolve_left (by omega))
  · rw [upd_ne _ _ (by omega)]; exact h.a ((getD_set z).resolve_left (by omega))
  · rw [upd_same]; exact hv
  · rw [upd_ne _ _ (by omega)]; exact h.c ((getD_set z).resolve_left (by omega))
  · rw [upd_ne _ _ (by omega)]; exact h.d ((getD_set z).resolve_left (by omega))
theorem I7.put18 (h : I7 W BX vw vt vs mv T listed x w) : I7 W BX vw vt vs mv T (listed.setIfInBounds 18 true) (updN x 23 (.bool true)) w := by
  refine ⟨?_, h.low, h.bx, fun j u hj hl => ?_, fun z => ?_, fun z => ?_, fun z => ?_, fun z => ?_⟩
  · rw [upd_ne _ _ (by omega)]; exact h.x1
  · obtain ⟨i1, i2⟩ := tv7_at hj
    rw [upd_ne _ _ (by omega)]
    exact h.sl j u hj ((getD_set hl).resolve_left (by omega))
  · rw [upd_ne _ _ (by omega)]; exact h.a ((getD_set z).resolve_left (by omega))
  · rw [upd_ne _ _ (by omega)]; exact h.b ((getD_set z).resolve_left (by omega))
  · rw [upd_same]
  · rw [upd_ne _ _ (by omega)]; exact h.d ((getD_set z).resolve_left (by omega))
theorem I7.put19 (h : I7 W BX vw vt vs mv T listed x w) : I7 W BX vw vt vs mv T (listed.setIfInBounds 19 true) (updN x 2 (.bool true)) w := by
  refine ⟨?_, h.low, h.bx, fun j u hj hl => ?_, fun z => ?_, fun z => ?_, fun z => ?_, fun z => ?_⟩
  · rw [upd_ne _ _ (by omega)]; exact h.x1
  · obtain ⟨i1, i2⟩ := tv7_at hj
    rw [upd_ne _ _ (by omega)]
    exact h.sl j u hj ((getD_set hl).resolve_left (by omega))
  · rw [upd_ne _ _ (by omega)]; exact h.a ((getD_set z).resolve_left (by omega))
  · rw [upd_ne _ _ (by omega)]; exact h.b ((getD_set z).resolve_left (by omega))
  · rw [upd_ne _ _ (by omega)]; exact h.c ((getD_set z).resolve_left (by omega))
  · rw [upd_same]
end
set_option maxRecDepth 100000 in
set_option maxHeartbeats 4000000 in
theorem plays_runs (hbeg : BeginC) (hstep : StepC) {W : World} {vw vt vs : Value} {ws : List Int} {LL : List (List OpD)} {sch : List Int} {most : Int} (hW : IntsIn W vw ws) (hT : ThrIn W vt LL) (hS : IntsIn W vs sch) (hnil : NilV vs) (hws : ws.length ≤ 1000000000) (hLL : LL.length ≤ 1000000000) (hops : ∀ L ∈ LL, L.length ≤ 1000000000) (hsch : sch.length ≤ 1048576) (hmost : most < 9223372036854775808) :
    RM Try.prog (ZEnd Try.prog fun v w' => v = .bool true ∧ Low W w') (G (Frame.enter Try.prog 7 #[.agg #[vw, vt, vs, .int .i64 most]] .normal) []) W := by
  rw [enter_at _ Try.func7 rfl]
  simp only [Try.ntmps7, List.size_toArray, List.length_cons, List.length_nil, Nat.reduceAdd, Nat.reduceSub, Array.replicate_succ,
     Array.replicate_zero, List.push_toArray, List.append_toArray, List.nil_append, List.cons_append]
  refine x_seqR rm_xc fun R0 hR0 => ?_
  refine rm_seg prg0 (calmCode_of ext_ok (by kernel_rfl)) rfl (calmRes_of Try.func7) rfl fun wp hp => ?_
  go_wp2_with fail
  refine fun w1 h1 => ?_
  have sz : wp.heap.size = W.heap.size := by rw [hp.heap]
  have e1 : w1.heap[W.heap.size]? = some (.cells #[vw, vt, vs, .int .i64 most] 59 (0, 0)) := by rw [h1.heap, ← sz]; exact heap_alloc_new _ _
  have L1 : Low W w1 := by
    refine ⟨?_, fun b hb => ?_, h1.outs.1.trans hp.outs.1, h1.outs.2.trans hp.outs.2⟩
    · rw [h1.heap]; simp; omega
    · rw [h1.heap, Below.heap_alloc _ _ _ (by omega), hp.heap]
  rw [sz]
  clear h1 hp sz wp
  obtain rfl := hR0.out
  clear hR0
  refine x_seqR rm_xc fun R0 hR0 => ?_
  refine x_seqR rm_xc fun R1 hR1 => ?_
  refine x_region rm_xc ?_
  refine x_callF rm_xc (i := 0) rfl rfl (by decide) rfl Try.func9 (by kernel_rfl) (by kernel_rfl) ?_
  walk_nrm
  refine waits_runs fun w2 l2 => ?_
  have L2 : Low W w2 := L1.trans l2
  have e2 : w2.heap[W.heap.size]? = some (.cells #[vw, vt, vs, .int .i64 most] 59 (0, 0)) := (l2.2.1 _ (Array.getElem?_eq_some_iff.1 e1).1).trans e1
  clear l2 L1 e1 w1
  rw [Frame.finish_at]
  refine rm_more 1 1 (by decide) (by decide) (calm0 (by kernel_rfl)) fun wp hp => ?_
  simp only [List.drop_succ_cons, List.drop_zero, List.take_succ_cons, List.take_zero]
  go_wp2_with fail
  refine rm_after rfl fun w3 h3 => ?_
  have hh : w3.heap = w2.heap := h3.heap.trans hp.heap
  have L3 : Low W w3 := L2.trans ⟨by rw [hh]; exact Nat.le_refl _, fun b _ => by rw [hh], h3.outs.1.trans hp.outs.1, h3.outs.2.trans hp.outs.2⟩
  have e3 : w3.heap[W.heap.size]? = some (.cells #[vw, vt, vs, .int .i64 most] 59 (0, 0)) := by rw [hh]; exact e2
  clear h3 hp wp L2 e2 hh w2
  refine x_regionEnd rm_xc ?_
  obtain rfl := hR1.out
  clear hR1
  refine x_cond rm_xc (t := false) rfl ?_
  refine x_skip rm_xc ?_
  obtain rfl := hR0.out
  clear hR0
  generalize hBX : W.heap.size = BX at *
  have hI0 : ∀ x : Nat → Value, x 1 = .pointer (some ⟨BX, 0, none⟩) → ∀ n, I7 W BX vw vt vs (.int .i64 most) (trB ws LL sch most) (Array.replicate n false) x w3 := fun x hx n =>
    ⟨hx, L3, e3, fun j v _ hl => by simp [Array.getD] at hl, fun z => by simp [Array.getD] at z, fun z => by simp [Array.getD] at z, fun z => by simp [Array.getD] at z, fun z => by simp [Array.getD] at z⟩
  refine x_seqR rm_xc fun R0 hR0 => ?_
  refine rm_draws rfl (fun listed a w => ∃ x, a = A7 x ∧ I7 W BX vw vt vs (.int .i64 most) (trB ws LL sch most) listed x w) ?i0 ?ie ?ist
  case i0 =>
    exact ⟨_, a7_lit _ rfl, hI0 _ rfl _⟩
  case ie =>
    rintro listed a w hsz hrd ⟨x, rfl, hI⟩
    have hall := all_listed (low_of (by kernel_rfl)) hsz hrd
    have hx2 := hI.d (hall 19 (by decide))
    refine x_regionEnd rm_xc ?_
    obtain rfl := hR0.out
    refine x_ret rm_xc ?_
    exact rm_end (calmRes_of (z := true) Try.func7) (v := .bool true) ⟨rfl, rfl, rfl, _, Try.func7, (results_tmp (fn := Try.f7) (t := 2) rfl _ _ _).trans (by show Result.ok (x 2) w = _; rw [hx2])⟩ (by kernel_rfl) fun d => ⟨rfl, hI.low⟩
  case ist =>
    rintro listed i hsz hir a w r ⟨x, rfl, hI⟩ hnext
    obtain ⟨hun, o, ho, hdep⟩ := mem_ready.1 hir
    have hi20 : i < 20 := by
      have := (Array.getElem?_eq_some_iff.1 ho).1
      simpa using this
    have hcase : i = 0 ∨ i = 1 ∨ i = 2 ∨ i = 3 ∨ i = 4 ∨ i = 5 ∨ i = 6 ∨ i = 7 ∨ i = 8 ∨ i = 9 ∨ i = 10 ∨ i = 11 ∨ i = 12 ∨ i = 13 ∨ i = 14 ∨ i = 15 ∨ i = 16 ∨ i = 17 ∨ i = 18 ∨ i = 19 := by omega
    rcases hcase with rfl | rfl | rfl | rfl | rfl | rfl | rfl | rfl | rfl | rfl | rfl | rfl | rfl | rfl | rfl | rfl | rfl | rfl | rfl | rfl
    · -- 0
      refine rm_op rfl rfl (by decide) (calm0 (l := [_]) (by kernel_rfl) _ (List.mem_singleton.2 rfl)) (v := (.pointer (some ⟨BX, 0, none⟩))) (by have h1 := hI.x1; unfold A7; first | (go_simp; done) | (go_simp; with_reducible rfl) | (go_simp; rfl)) fun w1 l1 e1 => ?_
      exact hnext (A7 (updN x 5 (.pointer (some ⟨BX, 0, none⟩)))) w1 ⟨_, rfl, (hI.grow l1).tab (i := 0) rfl⟩
    · -- 1
      have ho' := Option.some.inj ho
      subst ho'
      have d0 : listed.getD 0 false = true := hdep ⟨0, .data⟩ (by simp) rfl
      have h5 : x 5 = (.pointer (some ⟨BX, 0, none⟩)) := hI.sl 0 _ rfl d0
      have hc : w.cell? ⟨BX, 0, none⟩ = some vw := by rw [cellAt hI.bx 0]; rfl
      refine rm_op rfl rfl (by decide) (calm0 (l := [_]) (by kernel_rfl) _ (List.mem_singleton.2 rfl)) (v := vw) (by unfold A7; first | (go_simp; done) | (go_simp; with_reducible rfl) | (go_simp; rfl)) fun w1 l1 e1 => ?_
      exact hnext (A7 (updN x 6 vw)) w1 ⟨_, rfl, (hI.grow l1).tab (i := 1) rfl⟩
    · -- 2
      refine rm_op rfl rfl (by decide) (calm0 (l := [_]) (by kernel_rfl) _ (List.mem_singleton.2 rfl)) (v := (.pointer (some ⟨BX, 1, none⟩))) (by have h1 := hI.x1; unfold A7; first | (go_simp; done) | (go_simp; with_reducible rfl) | (go_simp; rfl)) fun w1 l1 e1 => ?_
      exact hnext (A7 (updN x 7 (.pointer (some ⟨BX, 1, none⟩)))) w1 ⟨_, rfl, (hI.grow l1).tab (i := 2) rfl⟩
    · -- 3
      have ho' := Option.some.inj ho
      subst ho'
      have d2 : listed.getD 2 false = true := hdep ⟨2, .data⟩ (by simp) rfl
      have h5 : x 7 = (.pointer (some ⟨BX, 1, none⟩)) := hI.sl 2 _ rfl d2
      have hc : w.cell? ⟨BX, 1, none⟩ = some vt := by rw [cellAt hI.bx 1]; rfl
      refine rm_op rfl rfl (by decide) (calm0 (l := [_]) (by kernel_rfl) _ (List.mem_singleton.2 rfl)) (v := vt) (by unfold A7; first | (go_simp; done) | (go_simp; with_reducible rfl) | (go_simp; rfl)) fun w1 l1 e1 => ?_
      exact hnext (A7 (updN x 8 vt)) w1 ⟨_, rfl, (hI.grow l1).tab (i := 3) rfl⟩
    · -- 4
      refine rm_op rfl rfl (by decide) (calm0 (l := [_]) (by kernel_rfl) _ (List.mem_singleton.2 rfl)) (v := (.pointer (some ⟨BX, 2, none⟩))) (by have h1 := hI.x1; unfold A7; first | (go_simp; done) | (go_simp; with_reducible rfl) | (go_simp; rfl)) fun w1 l1 e1 => ?_
      exact hnext (A7 (updN x 9 (.pointer (some ⟨BX, 2, none⟩)))) w1 ⟨_, rfl, (hI.grow l1).tab (i := 4) rfl⟩
    · -- 5
      have ho' := Option.some.inj ho
      subst ho'
      have d4 : listed.getD 4 false = true := hdep ⟨4, .data⟩ (by simp) rfl
      have h5 : x 9 = (.pointer (some ⟨BX, 2, none⟩)) := hI.sl 4 _ rfl d4
      have hc : w.cell? ⟨BX, 2, none⟩ = some vs := by rw [cellAt hI.bx 2]; rfl
      refine rm_op rfl rfl (by decide) (calm0 (l := [_]) (by kernel_rfl) _ (List.mem_singleton.2 rfl)) (v := vs) (by unfold A7; first | (go_simp; done) | (go_simp; with_reducible rfl) | (go_simp; rfl)) fun w1 l1 e1 => ?_
      exact hnext (A7 (updN x 10 vs)) w1 ⟨_, rfl, (hI.grow l1).tab (i := 5) rfl⟩
    · -- 6
      refine rm_op rfl rfl (by decide) (calm0 (l := [_]) (by kernel_rfl) _ (List.mem_singleton.2 rfl)) (v := (.pointer (some ⟨BX, 3, none⟩))) (by have h1 := hI.x1; unfold A7; first | (go_simp; done) | (go_simp; with_reducible rfl) | (go_simp; rfl)) fun w1 l1 e1 => ?_
      exact hnext (A7 (updN x 11 (.pointer (some ⟨BX, 3, none⟩)))) w1 ⟨_, rfl, (hI.grow l1).tab (i := 6) rfl⟩
    · -- 7
      have ho' := Option.some.inj ho
      subst ho'
      have d6 : listed.getD 6 false = true := hdep ⟨6, .data⟩ (by simp) rfl
      have h5 : x 11 = (.pointer (some ⟨BX, 3, none⟩)) := hI.sl 6 _ rfl d6
      have hc : w.cell? ⟨BX, 3, none⟩ = some (.int .i64 most) := by rw [cellAt hI.bx 3]; rfl
      refine rm_op rfl rfl (by decide) (calm0 (l := [_]) (by kernel_rfl) _ (List.mem_singleton.2 rfl)) (v := (.int .i64 most)) (by unfold A7; first | (go_simp; done) | (go_simp; with_reducible rfl) | (go_simp; rfl)) fun w1 l1 e1 => ?_
      exact hnext (A7 (updN x 12 (.int .i64 most))) w1 ⟨_, rfl, (hI.grow l1).tab (i := 7) rfl⟩
    · -- barrier.Play
      have ho' := Option.some.inj ho
      subst ho'
      have d1 : listed.getD 1 false = true := hdep ⟨1, .data⟩ (by simp) rfl
      have d3 : listed.getD 3 false = true := hdep ⟨3, .data⟩ (by simp) rfl
      have d5 : listed.getD 5 false = true := hdep ⟨5, .data⟩ (by simp) rfl
      have d7 : listed.getD 7 false = true := hdep ⟨7, .data⟩ (by simp) rfl
      refine x_callF rm_xc rfl rfl (by decide) rfl Try.func17 (by kernel_rfl) (by kernel_rfl) ?_
      walk_nrm
      show RM _ _ (G (Frame.enter Try.prog 17 #[x 6, x 8, x 10, x 12] .normal) _) w
      rw [show (#[x 6, x 8, x 10, x 12] : Array Value) = #[vw, vt, vs, .int .i64 most] by rw [hI.sl 1 _ rfl d1, hI.sl 3 _ rfl d3, hI.sl 5 _ rfl d5, hI.sl 7 _ rfl d7]]
      refine play_runs (hW.keep hI.low.2.1) (hT.keep hI.low.2.1) hLL hws (hS.keep hI.low.2.1) hsch hmost fun tv w7 hTr low7 sz7 o7 => ?_
      rw [Frame.finish_at]
      exact hnext (A7 (updN x 13 tv)) w7 ⟨_, rfl, (hI.grow ⟨sz7, low7, o7⟩).put8 hTr⟩
    · -- 9
      refine rm_op rfl rfl (by decide) (calm0 (l := [_]) (by kernel_rfl) _ (List.mem_singleton.2 rfl)) (v := (.pointer (some ⟨BX, 0, none⟩))) (by have h1 := hI.x1; unfold A7; first | (go_simp; done) | (go_simp; with_reducible rfl) | (go_simp; rfl)) fun w1 l1 e1 => ?_
      exact hnext (A7 (updN x 14 (.pointer (some ⟨BX, 0, none⟩)))) w1 ⟨_, rfl, (hI.grow l1).tab (i := 9) rfl⟩
    · -- 10
      have ho' := Option.some.inj ho
      subst ho'
      have d9 : listed.getD 9 false = true := hdep ⟨9, .data⟩ (by simp) rfl
      have h5 : x 14 = (.pointer (some ⟨BX, 0, none⟩)) := hI.sl 9 _ rfl d9
      have hc : w.cell? ⟨BX, 0, none⟩ = some vw := by rw [cellAt hI.bx 0]; rfl
      refine rm_op rfl rfl (by decide) (calm0 (l := [_]) (by kernel_rfl) _ (List.mem_singleton.2 rfl)) (v := vw) (by unfold A7; first | (go_simp; done) | (go_simp; with_reducible rfl) | (go_simp; rfl)) fun w1 l1 e1 => ?_
      exact hnext (A7 (updN x 15 vw)) w1 ⟨_, rfl, (hI.grow l1).tab (i := 10) rfl⟩
    · -- 11
      refine rm_op rfl rfl (by decide) (calm0 (l := [_]) (by kernel_rfl) _ (List.mem_singleton.2 rfl)) (v := (.pointer (some ⟨BX, 1, none⟩))) (by have h1 := hI.x1; unfold A7; first | (go_simp; done) | (go_simp; with_reducible rfl) | (go_simp; rfl)) fun w1 l1 e1 => ?_
      exact hnext (A7 (updN x 16 (.pointer (some ⟨BX, 1, none⟩)))) w1 ⟨_, rfl, (hI.grow l1).tab (i := 11) rfl⟩
    · -- 12
      have ho' := Option.some.inj ho
      subst ho'
      have d11 : listed.getD 11 false = true := hdep ⟨11, .data⟩ (by simp) rfl
      have h5 : x 16 = (.pointer (some ⟨BX, 1, none⟩)) := hI.sl 11 _ rfl d11
      have hc : w.cell? ⟨BX, 1, none⟩ = some vt := by rw [cellAt hI.bx 1]; rfl
      refine rm_op rfl rfl (by decide) (calm0 (l := [_]) (by kernel_rfl) _ (List.mem_singleton.2 rfl)) (v := vt) (by unfold A7; first | (go_simp; done) | (go_simp; with_reducible rfl) | (go_simp; rfl)) fun w1 l1 e1 => ?_
      exact hnext (A7 (updN x 17 vt)) w1 ⟨_, rfl, (hI.grow l1).tab (i := 12) rfl⟩
    · -- 13
      refine rm_op rfl rfl (by decide) (calm0 (l := [_]) (by kernel_rfl) _ (List.mem_singleton.2 rfl)) (v := (.pointer (some ⟨BX, 2, none⟩))) (by have h1 := hI.x1; unfold A7; first | (go_simp; done) | (go_simp; with_reducible rfl) | (go_simp; rfl)) fun w1 l1 e1 => ?_
      exact hnext (A7 (updN x 18 (.pointer (some ⟨BX, 2, none⟩)))) w1 ⟨_, rfl, (hI.grow l1).tab (i := 13) rfl⟩
    · -- 14
      have ho' := Option.some.inj ho
      subst ho'
      have d13 : listed.getD 13 false = true := hdep ⟨13, .data⟩ (by simp) rfl
      have h5 : x 18 = (.pointer (some ⟨BX, 2, none⟩)) := hI.sl 13 _ rfl d13
      have hc : w.cell? ⟨BX, 2, none⟩ = some vs := by rw [cellAt hI.bx 2]; rfl
      refine rm_op rfl rfl (by decide) (calm0 (l := [_]) (by kernel_rfl) _ (List.mem_singleton.2 rfl)) (v := vs) (by unfold A7; first | (go_simp; done) | (go_simp; with_reducible rfl) | (go_simp; rfl)) fun w1 l1 e1 => ?_
      exact hnext (A7 (updN x 19 vs)) w1 ⟨_, rfl, (hI.grow l1).tab (i := 14) rfl⟩
    · -- 15
      refine rm_op rfl rfl (by decide) (calm0 (l := [_]) (by kernel_rfl) _ (List.mem_singleton.2 rfl)) (v := (.pointer (some ⟨BX, 3, none⟩))) (by have h1 := hI.x1; unfold A7; first | (go_simp; done) | (go_simp; with_reducible rfl) | (go_simp; rfl)) fun w1 l1 e1 => ?_
      exact hnext (A7 (updN x 20 (.pointer (some ⟨BX, 3, none⟩)))) w1 ⟨_, rfl, (hI.grow l1).tab (i := 15) rfl⟩
    · -- 16
      have ho' := Option.some.inj ho
      subst ho'
      have d15 : listed.getD 15 false = true := hdep ⟨15, .data⟩ (by simp) rfl
      have h5 : x 20 = (.pointer (some ⟨BX, 3, none⟩)) := hI.sl 15 _ rfl d15
      have hc : w.cell? ⟨BX, 3, none⟩ = some (.int .i64 most) := by rw [cellAt hI.bx 3]; rfl
      refine rm_op rfl rfl (by decide) (calm0 (l := [_]) (by kernel_rfl) _ (List.mem_singleton.2 rfl)) (v := (.int .i64 most)) (by unfold A7; first | (go_simp; done) | (go_simp; with_reducible rfl) | (go_simp; rfl)) fun w1 l1 e1 => ?_
      exact hnext (A7 (updN x 21 (.int .i64 most))) w1 ⟨_, rfl, (hI.grow l1).tab (i := 16) rfl⟩
    · -- the document's Play
      have ho' := Option.some.inj ho
      subst ho'
      have d10 : listed.getD 10 false = true := hdep ⟨10, .data⟩ (by simp) rfl
      have d12 : listed.getD 12 false = true := hdep ⟨12, .data⟩ (by simp) rfl
      have d14 : listed.getD 14 false = true := hdep ⟨14, .data⟩ (by simp) rfl
      have d16 : listed.getD 16 false = true := hdep ⟨16, .data⟩ (by simp) rfl
      refine x_callF rm_xc rfl rfl (by decide) rfl Try.func18 (by kernel_rfl) (by kernel_rfl) ?_
      walk_nrm
      show RM _ _ (G (Frame.enter Try.prog 18 #[x 15, x 17, x 19, x 21] .normal) _) w
      rw [show (#[x 15, x 17, x 19, x 21] : Array Value) = #[vw, vt, vs, .int .i64 most] by rw [hI.sl 10 _ rfl d10, hI.sl 12 _ rfl d12, hI.sl 14 _ rfl d14, hI.sl 16 _ rfl d16]]
      refine rm_enter prg2 (f := 18) (by decide) (R := fun v w' => (TrIn w' v (trB ws LL sch most) ∧ TrSmall (trB ws LL sch most)) ∧ Low w w') (fun v w' τ d ⟨e, q⟩ => ⟨⟨e.1.keep fun b _ => rfl, e.2⟩, q⟩) (fun τ d => (refPlay_walk (w := re τ d w) hbeg hstep (hW.keep hI.low.2.1) (hT.keep hI.low.2.1) (hS.keep hI.low.2.1) hnil hws hLL hops hsch most).mono fun e w' ⟨tv, e1, ht, hb, hsm⟩ => ⟨tv, e1, ⟨ht, hsm⟩, (Low.of_below hb).re⟩) fun v w8 hv8 => ?_
      obtain ⟨ht, l8⟩ := hv8
      rw [Frame.finish_at]
      exact hnext (A7 (updN x 22 v)) w8 ⟨_, rfl, (hI.grow l8).put17 ht⟩
    · -- Same
      have ho' := Option.some.inj ho
      subst ho'
      have d8 : listed.getD 8 false = true := hdep ⟨8, .data⟩ (by simp) rfl
      have d17 : listed.getD 17 false = true := hdep ⟨17, .data⟩ (by simp) rfl
      refine x_callF rm_xc rfl rfl (by decide) rfl Try.func16 (by kernel_rfl) (by kernel_rfl) ?_
      walk_nrm
      show RM _ _ (G (Frame.enter Try.prog 16 #[x 13, x 22] .normal) _) w
      refine rm_enter prg0 (f := 16) (by decide) (R := fun v w' => v = .bool true ∧ Low w w') (fun v w' τ d ⟨e, q⟩ => ⟨e, q⟩) (fun τ d => (sameT_walk (w := re τ d w) ((hI.a d8).keep fun b _ => rfl) ((hI.b d17).1.keep fun b _ => rfl) (hI.b d17).2.ans (hI.b d17).2.ord (hI.b d17).2.st (hI.b d17).2.each).mono fun e w' ⟨e1, hb⟩ => ⟨_, e1, rfl, (Low.of_below hb).re⟩) fun v w8 hv8 => ?_
      obtain ⟨rfl, l8⟩ := hv8
      rw [Frame.finish_at]
      exact hnext (A7 (updN x 23 (.bool true))) w8 ⟨_, rfl, (hI.grow l8).put18⟩
    · -- the answer
      have ho' := Option.some.inj ho
      subst ho'
      have d18 : listed.getD 18 false = true := hdep ⟨18, .data⟩ (by simp) rfl
      have h5 : x 23 = .bool true := hI.c d18
      refine rm_op rfl rfl (by decide) (calm0 (l := [_]) (by kernel_rfl) _ (List.mem_singleton.2 rfl)) (v := .bool true) (by unfold A7; first | (go_simp; done) | (go_simp; with_reducible rfl) | (go_simp; rfl)) fun w1 l1 e1 => ?_
      exact hnext (A7 (updN x 2 (.bool true))) w1 ⟨_, rfl, (hI.grow l1).put19⟩
end Go.Proofs.Ytimkkeomdkbcjaa
