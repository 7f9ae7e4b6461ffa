/-
  Merged out of: Far3 Far4. No condition of its own.
-/
import Derived.Test.YtimkkeomdkbcjaaFarP38
import Derived.Test.YtimkkeomdkbcjaaFarP41
/-
  BarrierFar beside goroutines that only leave. No condition of its own.
-/
namespace Go.Proofs.Ytimkkeomdkbcjaa
open Go.Conc Go.RowKit
set_option linter.unusedVariables false
set_option linter.unusedSimpArgs false

theorem U8In.keep {w w' : World} (h : ∀ b, b < w.heap.size → w'.heap[b]? = w.heap[b]?) {ao : Option Addr} {len : Nat} {zs : List Int} (hx : U8In w ao len zs) : U8In w' ao len zs :=
  ⟨hx.1, hx.2.1, hx.2.2.imp id fun ⟨g, o, e, q⟩ => ⟨g, o, e, fun i hi => cell_keep h (q i hi)⟩⟩
theorem intsIn_row {w : World} {base e n : Nat} {v : Value} {xs : List Int} (h : w.ownsRow base e 1 v n (intsL xs)) (hx : ∀ x ∈ xs, In64 x) : IntsIn w v xs := by
  have hl : xs.length = n := by have := h.1; rw [intsL_len] at this; omega
  subst hl
  obtain ⟨p, cap, e1, e2, q⟩ := row_cells h
  refine ⟨hx, p, cap, e1, e2, fun hne => ?_⟩
  obtain ⟨g, c, e3, _, hg, hc⟩ := q (List.length_pos_iff.2 hne)
  refine ⟨g, 0, e3, fun j x hj => ?_⟩
  have hlt := (List.getElem?_eq_some_iff.1 hj).1
  rw [Nat.zero_add, cellAt hg j, hc j hlt]
  simp [intsL, hj]
theorem flatO_len (l : List OpD) : (flatO l).length = l.length * 4 := by
  induction l with
  | nil => rfl
  | cons o l ih =>
    have e : flatO (o :: l) = [.int .i64 o.kind, .int .i64 o.a, .int .i64 o.b, .int .i64 o.c] ++ flatO l := rfl
    rw [e, List.length_append, ih]
    simp; omega
theorem flatO_get : ∀ (l : List OpD) (j : Nat) (o : OpD), l[j]? = some o → (flatO l)[j * 4]? = some (.int .i64 o.kind) ∧ (flatO l)[j * 4 + 1]? = some (.int .i64 o.a) ∧ (flatO l)[j * 4 + 2]? = some (.int .i64 o.b) ∧ (flatO l)[j * 4 + 3]? = some (.int .i64 o.c)
  | [], j, o, h => by simp at h
  | x :: l, 0, o, h => by
    obtain rfl : x = o := by simpa using h
    simp [flatO]
  | x :: l, j + 1, o, h => by
    have h' : l[j]? = some o := by simpa using h
    have e : flatO (x :: l) = [.int .i64 x.kind, .int .i64 x.a, .int .i64 x.b, .int .i64 x.c] ++ flatO l := rfl
    obtain ⟨q0, q1, q2, q3⟩ := flatO_get l j o h'
    rw [e]
    refine ⟨?_, ?_, ?_, ?_⟩
    · rw [List.getElem?_append_right (by simp; omega)]; simpa [show (j + 1) * 4 - 4 = j * 4 by omega] using q0
    · rw [List.getElem?_append_right (by simp; omega)]; simpa [show (j + 1) * 4 + 1 - 4 = j * 4 + 1 by omega] using q1
    · rw [List.getElem?_append_right (by simp; omega)]; simpa [show (j + 1) * 4 + 2 - 4 = j * 4 + 2 by omega] using q2
    · rw [List.getElem?_append_right (by simp; omega)]; simpa [show (j + 1) * 4 + 3 - 4 = j * 4 + 3 by omega] using q3
theorem opsIn_row {w : World} {base : Nat} {v : Value} {l : List OpD} (h : w.ownsRow base 94 4 v l.length (flatO l)) (hx : ∀ o ∈ l, o.Ok) : ∃ a cap, v = .slice a l.length cap ∧ OpsIn w a l.length cap l := by
  rcases h.2 with ⟨rfl, q⟩ | ⟨g, cap, cur, rfl, q1, q2, q3, q4, q5, q6⟩
  · exact ⟨none, 0, by rw [q], hx, rfl, by omega, fun hne => absurd (List.length_eq_zero_iff.1 q) hne⟩
  · refine ⟨_, cap, rfl, hx, rfl, q3, fun hne => ⟨g, 0, rfl, fun j o hj => ?_⟩⟩
    have hlt := (List.getElem?_eq_some_iff.1 hj).1
    obtain ⟨a0, a1, a2, a3⟩ := flatO_get l j o hj
    have get : ∀ i, i < l.length * 4 → cur[i]? = (flatO l)[i]? := fun i hi => by
      rw [← q6, List.getElem?_take_of_lt hi]
      simp
    unfold OpCells
    rw [Nat.zero_add, cellAt q2, cellAt q2, cellAt q2, cellAt q2, get _ (by omega), get _ (by omega), get _ (by omega), get _ (by omega)]
    exact ⟨a0, a1, a2, a3⟩
theorem thrIn_grown {w0 w : World} {N n : Nat} {LL : List (List OpD)} {S : Nat → Value} {v : Value} (hn : 1 ≤ n ∧ n ≤ 4) (h : GrW w0 N n LL S (min LL.length 4) v w) : ThrIn w v (grownL n LL) := by
  obtain ⟨hl, hg⟩ := grownL_ok hn LL
  obtain ⟨p, cap, e1, e2, q⟩ := row_cells h.out
  have el : ∀ i L, (grownL n LL)[i]? = some L → i < min LL.length 4 ∧ L = growL n i (LL.getD i []) := fun i L hi => by
    have hlt := (List.getElem?_eq_some_iff.1 hi).1
    rw [hl] at hlt
    refine ⟨hlt, ?_⟩
    unfold grownL grownJ at hi
    rw [List.getElem?_map, List.getElem?_range hlt] at hi
    exact (Option.some.inj hi).symm
  have rowI : ∀ i, i < min LL.length 4 → ∃ a c, S i = .slice a (growL n i (LL.getD i [])).length c ∧ OpsIn w a (growL n i (LL.getD i [])).length c (growL n i (LL.getD i [])) := fun i hi =>
    opsIn_row (h.row i hi) fun o ho => (hg (growL n i (LL.getD i [])) (by
      unfold grownL grownJ
      exact List.mem_map.2 ⟨i, List.mem_range.2 hi, rfl⟩)).2.2 o ho
  refine ⟨p, cap, by rw [hl]; exact e1, fun i => if hi : i < min LL.length 4 then (rowI i hi).choose else none, fun i => (growL n i (LL.getD i [])).length, fun i => if hi : i < min LL.length 4 then (rowI i hi).choose_spec.choose else 0, fun hne => ?_, fun i L hi => ?_⟩
  · have h0 : 0 < min LL.length 4 := by rw [← hl]; exact List.length_pos_iff.2 hne
    obtain ⟨g, c, e3, _, hgg, hc⟩ := q h0
    refine ⟨g, 0, e3, fun i L hi => ?_⟩
    obtain ⟨hlt, _⟩ := el i L hi
    rw [Nat.zero_add, cellAt hgg i, hc i hlt]
    simp only [dif_pos hlt]
    rw [← (rowI i hlt).choose_spec.choose_spec.1, List.getElem?_map, List.getElem?_range hlt]
    rfl
  · obtain ⟨hlt, rfl⟩ := el i L hi
    simp only [dif_pos hlt]
    exact (rowI i hlt).choose_spec.choose_spec.2
end Go.Proofs.Ytimkkeomdkbcjaa

/-
  BarrierFar beside goroutines that only leave: the walk. No condition of its own.
-/
namespace Go.Proofs.Ytimkkeomdkbcjaa
open Go.Conc Go.RowKit
set_option linter.unusedVariables false
set_option linter.unusedSimpArgs false

/-- What a fragment's world holds of the world ahead. -/
structure LowG (w w' : World) : Prop where
  size : w.heap.size ≤ w'.heap.size
  block : ∀ b, b < w.heap.size → w'.heap[b]? = w.heap[b]?
  outs : w'.os = w.os ∧ w'.output = w.output
theorem LowG.of {w w' : World} (h : Low w w') : LowG w w' := ⟨h.1, h.2.1, h.2.2⟩
theorem LowG.low {w w' : World} (h : LowG w w') : Low w w' := ⟨h.size, h.block, h.outs⟩
theorem LowG.refl (w : World) : LowG w w := ⟨Nat.le_refl _, fun _ _ => rfl, rfl, rfl⟩
theorem LowG.trans {a b c : World} (h : LowG a b) (k : LowG b c) : LowG a c := .of (h.low.trans k.low)
theorem LowG.sim {w w' : World} (h : Sim w' w) : LowG w w' := ⟨by rw [h.heap]; exact Nat.le_refl _, fun b _ => by rw [h.heap], h.outs⟩
theorem LowG.below {w w' : World} (h : Below w.heap.size w w') : LowG w w' := ⟨h.size, h.block, h.os, h.output⟩
set_option maxRecDepth 100000 in
set_option maxHeartbeats 1000000 in
theorem far_runs {W : World} {ao : Option Addr} {len cap : Nat} {zs : List Int} {LL : List (List OpD)} {sch : List Int} {vt vs : Value} (hB : U8In W ao len zs) (hcap : len ≤ cap) (hlen : len ≤ 1000000000) (hT : ThrIn W vt LL) (hTc : ∀ a c, vt = .slice a LL.length c → LL.length ≤ c) (hLL : LL.length ≤ 1000000000) (hS : IntsIn W vs sch) (hnS : sch.length ≤ 1048576) :
    RM Try.prog (ZEnd Try.prog fun v w' => v = .bool true ∧ Low W w') (G (Frame.enter Try.prog 8 #[.slice ao len cap, vt, vs] .normal) []) W := by
  rw [enter_at _ Try.func8 rfl]
  simp only [Try.ntmps8, List.size_toArray, List.length_cons, List.length_nil, Nat.reduceAdd, Nat.reduceSub, Array.replicate_succ,
     Array.replicate_zero, List.push_toArray, List.append_toArray, List.nil_append, List.cons_append]
  obtain ⟨hw1, hw4⟩ := firstsL_ok hB.2.1
  have hzs := hB.2.1
  replace hzs := Lib.hid hzs
  -- the result
  refine x_seqR rm_xc fun R0 hR0 => ?_
  refine rm_seg prg0 (calmCode_of ext_ok (by kernel_rfl)) rfl (calmRes_of Try.func8) rfl fun wp hp => ?_
  go_wp2_with fail
  refine fun w1 h1 => ?_
  have L1 : LowG W w1 := (LowG.sim hp).trans (.sim h1)
  clear h1 hp wp
  obtain rfl := hR0.out
  clear hR0
  -- waits
  refine x_seqR rm_xc fun R0 hR0 => ?_
  refine x_seqR rm_xc fun R1 hR1 => ?_
  refine x_region rm_xc ?_
  refine x_callF rm_xc (i := 0) rfl rfl (by decide) rfl Try.func9 (by kernel_rfl) (by kernel_rfl) ?_
  walk_nrm
  refine waits_runs fun w2 l2 => ?_
  have L2 : LowG W w2 := L1.trans (.of l2)
  clear l2 L1 w1
  rw [Frame.finish_at]
  refine rm_more 1 1 (by decide) (by decide) (calm0 (by kernel_rfl)) fun wp hp => ?_
  simp only [List.drop_succ_cons, List.drop_zero, List.take_succ_cons, List.take_zero]
  go_wp2_with fail
  refine rm_after rfl fun w3 h3 => ?_
  have L3 : LowG W w3 := (L2.trans (.sim hp)).trans (.sim h3)
  clear h3 hp wp L2 w2
  refine x_regionEnd rm_xc ?_
  obtain rfl := hR1.out
  clear hR1
  refine x_cond rm_xc (t := false) rfl ?_
  refine x_skip rm_xc ?_
  obtain rfl := hR0.out
  clear hR0
  -- firsts
  refine x_seqR rm_xc fun R0 hR0 => ?_
  refine rm_seg prg0 (calmCode_of ext_ok (by kernel_rfl)) rfl (calmRes_of Try.func8) rfl fun wp hp => ?_
  have Lp : LowG W wp := L3.trans (.sim hp)
  have HW := Lib.hid (firsts_walk (w := wp) (hB.keep Lp.block) hcap hlen)
  replace Lp := Lib.hid Lp
  go_wp2_with (go_at_call 19; refine HW.out.mono ?_; rintro e w' ⟨v, rfl, hrow, hbl⟩; replace hrow := Lib.hid hrow; replace hbl := Lib.hid hbl)
  refine fun w4 h4 => ?_
  have L4 : LowG W w4 := (Lp.out.trans (.below hbl.out)).trans (.sim h4)
  have I4 : IntsIn w4 v (firstsL zs) := intsIn_row (ownsRow_heap hrow.out h4.heap) fun x hx => by have := hw4 x hx; unfold In64; omega
  clear h4 hrow hbl w' HW Lp hp wp L3 w3
  obtain rfl := hR0.out
  clear hR0
  obtain ⟨fa, fc, hv⟩ : ∃ fa fc, v = .slice fa (firstsL zs).length fc := by
    obtain ⟨_, fa, fc, e, _⟩ := I4
    exact ⟨fa, fc, e⟩
  subst hv
  generalize hfl : firstsL zs = fl at *
  -- grown
  refine x_seqR rm_xc fun R0 hR0 => ?_
  refine rm_seg prg0 (calmCode_of ext_ok (by kernel_rfl)) rfl (calmRes_of Try.func8) rfl fun wp hp => ?_
  have Lp : LowG W wp := L4.trans (.sim hp)
  have HW := Lib.hid (grown_walk (n := fl.length) (w := wp) hw1 (hT.keep Lp.block) hTc hLL)
  have Ip : IntsIn wp (.slice fa fl.length fc) fl := I4.keep fun b _ => by rw [hp.heap]
  replace Lp := Lib.hid Lp
  replace Ip := Lib.hid Ip
  replace I4 := Lib.hid I4
  go_wp2_with (go_at_call 20; refine HW.out.mono ?_; rintro e w' ⟨u, S, rfl, hgr⟩; replace hgr := Lib.hid hgr)
  refine fun w5 h5 => ?_
  have L5 : LowG W w5 := (Lp.out.trans (.below hgr.out.low)).trans (.sim h5)
  have I5 : IntsIn w5 (.slice fa fl.length fc) fl := (Ip.out.keep hgr.out.low.block).keep fun b _ => by rw [h5.heap]
  have T5 : ThrIn w5 u (grownL fl.length LL) := (thrIn_grown hw1 hgr.out).keep fun b _ => by rw [h5.heap]
  clear h5 hgr w' HW Lp Ip hp wp L4 I4 w4
  obtain rfl := hR0.out
  clear hR0
  obtain ⟨hgl, hgo⟩ := grownL_ok hw1 LL
  have hF := far_trace hw1 hw4 (LL := grownL fl.length LL) (by omega) (fun l hl => ⟨(hgo l hl).1, (hgo l hl).2.1⟩) sch
  generalize grownL fl.length LL = GL at *
  have S5 := hS.keep L5.block
  -- the play
  refine x_seqR rm_xc fun R0 hR0 => ?_
  refine rm_reg 5 (by decide) (by decide) (calm0 (by kernel_rfl)) fun wp hp => ?_
  simp only [List.take_succ_cons, List.take_zero]
  replace hp := Lib.hid hp
  go_wp2_with fail
  refine rm_after rfl fun w6 h6 => ?_
  have h56 : w6.heap = w5.heap := h6.heap.trans hp.out.heap
  have L6 : LowG W w6 := (L5.trans (.sim hp.out)).trans (.sim h6)
  clear h6 hp wp
  have I6 := I5.keep (w' := w6) fun b _ => by rw [h56]
  have T6 := T5.keep (w' := w6) fun b _ => by rw [h56]
  have S6 := S5.keep (w' := w6) fun b _ => by rw [h56]
  clear L5 I5 T5 S5 h56 w5
  refine x_callF rm_xc rfl rfl (by decide) rfl Try.func17 (by kernel_rfl) (by kernel_rfl) ?_
  walk_nrm
  refine play_runs I6 T6 (by omega) (by omega) S6 hnS (by omega) fun tv w7 hTr low7 sz7 o7 => ?_
  have L7 : LowG W w7 := L6.trans ⟨sz7, low7, o7⟩
  have I7 := I6.keep low7
  have T7 := T6.keep low7
  clear L6 I6 T6 S6 low7 sz7 o7 w6
  rw [Frame.finish_at]
  -- far
  refine x_callF rm_xc rfl rfl (by decide) rfl Try.func21 (by kernel_rfl) (by kernel_rfl) ?_
  walk_nrm
  refine rm_enter prg0 (f := 21) (by decide) (R := fun v w' => v = .bool true ∧ LowG w7 w') (fun v w' τ d ⟨e, q⟩ => ⟨e, q.size, q.block, q.outs⟩) (fun τ d => (far_walk (w := re τ d w7) hF (I7.keep fun b _ => rfl) (T7.keep fun b _ => rfl) (hTr.keep fun b _ => rfl)).mono fun e w' ⟨e1, hb⟩ => ⟨_, e1, rfl, ⟨hb.size, hb.block, hb.os, hb.output⟩⟩) fun v w8 hv8 => ?_
  obtain ⟨e, l8⟩ := hv8
  subst e
  have L8 := L7.trans l8
  clear L7 l8 hTr I7 T7 w7
  rw [Frame.finish_at]
  refine rm_more 7 1 (by decide) (by decide) (calm0 (by kernel_rfl)) fun wp hp => ?_
  simp only [List.drop_succ_cons, List.drop_zero, List.take_succ_cons, List.take_zero]
  go_wp2_with fail
  refine rm_after rfl fun w9 h9 => ?_
  have L9 : LowG W w9 := (L8.trans (.sim hp)).trans (.sim h9)
  clear h9 hp wp L8 w8
  refine x_regionEnd rm_xc ?_
  obtain rfl := hR0.out
  clear hR0
  refine x_ret rm_xc ?_
  exact rm_end (calmRes_of (z := true) Try.func8) (v := .bool true) ⟨rfl, rfl, rfl, _, Try.func8, (results_tmp (fn := Try.f8) (t := 6) rfl _ _ _).trans rfl⟩ (by kernel_rfl) fun d => ⟨rfl, L9.size, L9.block, L9.outs⟩
end Go.Proofs.Ytimkkeomdkbcjaa
