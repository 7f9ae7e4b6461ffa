/-
  Merged out of: Play7 Seven0 Far0 Far1 Ref0. No condition of its own.
-/
import Derived.Test.YtimkkeomdkbcjaaPlaysP31
import Derived.Test.YtimkkeomdkbcjaaPlaysP05
import Derived.Test.YtimkkeomdkbcjaaPlaysP08
set_option linter.unusedVariables false
set_option linter.unusedSimpArgs false
/-
  A call of barrier.Play, beside goroutines that only leave. No condition of its own.
-/
namespace Go.Proofs.Ytimkkeomdkbcjaa
open Go.Conc Go.RowKit
structure Tr where
  ans : List (List (Bool × Int))
  ord : List Int
  st : List Int
  stuck : Bool
def IntsAt (w : World) (v : Value) (xs : List Int) : Prop :=
  ∃ a cap, v = .slice a xs.length cap ∧ (xs ≠ [] → ∃ b o, a = some ⟨b, o, none⟩ ∧ ∀ j x, xs[j]? = some x → w.cell? ⟨b, o + j, none⟩ = some (.int .i64 x))
def AnsIn (w : World) (v : Value) (l : List (Bool × Int)) : Prop :=
  ∃ a cap, v = .slice a l.length cap ∧ (l ≠ [] → ∃ b o, a = some ⟨b, o, none⟩ ∧ ∀ j r, l[j]? = some r → w.cell? ⟨b, o + j * 3, none⟩ = some (.bool r.1) ∧ w.cell? ⟨b, o + j * 3 + 1, none⟩ = some (.int .i64 r.2) ∧ w.cell? ⟨b, o + j * 3 + 2, none⟩ = some (.slice none 0 0))
def AnssIn (w : World) (v : Value) (ll : List (List (Bool × Int))) : Prop :=
  ∃ a cap, v = .slice a ll.length cap ∧ (ll ≠ [] → ∃ b o, a = some ⟨b, o, none⟩ ∧ ∀ i l, ll[i]? = some l → ∃ u, w.cell? ⟨b, o + i, none⟩ = some u ∧ AnsIn w u l)
def TrIn (w : World) (v : Value) (T : Tr) : Prop := ∃ va vo vs, v = .agg #[va, vo, vs, .bool T.stuck] ∧ AnssIn w va T.ans ∧ IntsAt w vo T.ord ∧ IntsAt w vs T.st
section
variable {w w' : World}
theorem cell_keep (h : ∀ b, b < w.heap.size → w'.heap[b]? = w.heap[b]?) {a : Addr} {v : Value} (hc : w.cell? a = some v) : w'.cell? a = some v :=
  (World.cell?_of_block (w := w) (h _ (World.block_lt_of_cell? w _ hc))).trans hc
theorem IntsAt.keep (h : ∀ b, b < w.heap.size → w'.heap[b]? = w.heap[b]?) {v : Value} {xs : List Int} (hx : IntsAt w v xs) : IntsAt w' v xs := by
  obtain ⟨a, cap, e, q⟩ := hx
  exact ⟨a, cap, e, fun hne => by
    obtain ⟨b, o, e1, q1⟩ := q hne
    exact ⟨b, o, e1, fun j x hj => cell_keep h (q1 j x hj)⟩⟩
theorem AnsIn.keep (h : ∀ b, b < w.heap.size → w'.heap[b]? = w.heap[b]?) {v : Value} {l : List (Bool × Int)} (hx : AnsIn w v l) : AnsIn w' v l := by
  obtain ⟨a, cap, e, q⟩ := hx
  exact ⟨a, cap, e, fun hne => by
    obtain ⟨b, o, e1, q1⟩ := q hne
    exact ⟨b, o, e1, fun j x hj => ⟨cell_keep h (q1 j x hj).1, cell_keep h (q1 j x hj).2.1, cell_keep h (q1 j x hj).2.2⟩⟩⟩
theorem TrIn.keep (h : ∀ b, b < w.heap.size → w'.heap[b]? = w.heap[b]?) {v : Value} {T : Tr} (hx : TrIn w v T) : TrIn w' v T := by
  obtain ⟨va, vo, vs, e, ⟨a, cap, e1, q⟩, h2, h3⟩ := hx
  exact ⟨va, vo, vs, e, ⟨a, cap, e1, fun hne => by
    obtain ⟨b, o, e2, q1⟩ := q hne
    exact ⟨b, o, e2, fun i l hi => by
      obtain ⟨u, c, ha⟩ := q1 i l hi
      exact ⟨u, cell_keep h c, ha.keep h⟩⟩⟩, h2.keep h, h3.keep h⟩
theorem IntsIn.keep (h : ∀ b, b < w.heap.size → w'.heap[b]? = w.heap[b]?) {v : Value} {xs : List Int} (hx : IntsIn w v xs) : IntsIn w' v xs := by
  obtain ⟨h0, a, cap, e, e', q⟩ := hx
  exact ⟨h0, a, cap, e, e', fun hne => by
    obtain ⟨b, o, e1, q1⟩ := q hne
    exact ⟨b, o, e1, fun j x hj => cell_keep h (q1 j x hj)⟩⟩
theorem OpsIn.keep (h : ∀ b, b < w.heap.size → w'.heap[b]? = w.heap[b]?) {a : Option Addr} {len cap : Nat} {L : List OpD} (hx : OpsIn w a len cap L) : OpsIn w' a len cap L := by
  obtain ⟨h0, e, e', q⟩ := hx
  exact ⟨h0, e, e', fun hne => by
    obtain ⟨b, o, e1, q1⟩ := q hne
    exact ⟨b, o, e1, fun j p hj => ⟨cell_keep h (q1 j p hj).1, cell_keep h (q1 j p hj).2.1, cell_keep h (q1 j p hj).2.2.1, cell_keep h (q1 j p hj).2.2.2⟩⟩⟩
theorem ThrIn.keep (h : ∀ b, b < w.heap.size → w'.heap[b]? = w.heap[b]?) {v : Value} {LL : List (List OpD)} (hx : ThrIn w v LL) : ThrIn w' v LL := by
  obtain ⟨a, cap, e, ob, ln, cp, q, q2⟩ := hx
  exact ⟨a, cap, e, ob, ln, cp, fun hne => by
    obtain ⟨b, o, e1, q1⟩ := q hne
    exact ⟨b, o, e1, fun i L hi => cell_keep h (q1 i L hi)⟩, fun i L hi => (q2 i L hi).keep h⟩
theorem NewF.sim {w0 w0' w w' : World} {ws : List Int} {k wb bb : Nat} {v v2 : Value} {wd : Nat → Nat} (h : NewF w0 w ws k wb bb v v2 wd) (h0 : Sim w0 w0') (h1 : Sim w' w) : NewF w0' w' ws k wb bb v v2 wd := by
  have e := h1.heap
  have e0 := h0.heap
  exact ⟨by rw [← e0]; exact h.n1, by rw [← e0]; exact h.n2, by rw [e]; exact h.fwb, by rw [← e0]; exact ownsRow_heap h.rv e, by rw [e]; exact h.fbb, by rw [← e0]; exact ownsRow_heap h.rv2 e, fun j hj => by rw [e, ← e0]; exact h.fwd j hj, h.inj, fun b hb => by rw [e, ← e0]; exact h.low b (by rw [e0]; exact hb)⟩
theorem intsAt_row {base e n : Nat} {v : Value} {xs : List Int} (h : w.ownsRow base e 1 v n (intsL xs)) : IntsAt w v xs := by
  have hl : xs.length = n := by have := h.1; rw [intsL_len] at this; omega
  subst hl
  obtain ⟨p, cap, e1, _, q⟩ := row_cells h
  refine ⟨p, cap, e1, fun hne => ?_⟩
  obtain ⟨g, c, e2, _, hg, hc⟩ := q (List.length_pos_iff.2 hne)
  refine ⟨g, 0, e2, fun j x hj => ?_⟩
  have hlt := (List.getElem?_eq_some_iff.1 hj).1
  rw [Nat.zero_add, cellAt hg j, hc j hlt]
  simp [intsL, hj]
theorem flatA_get : ∀ (l : List (Bool × Int)) (j : Nat) (r : Bool × Int), l[j]? = some r → (flatA l)[j * 3]? = some (.bool r.1) ∧ (flatA l)[j * 3 + 1]? = some (.int .i64 r.2) ∧ (flatA l)[j * 3 + 2]? = some (.slice none 0 0)
  | [], j, r, h => by simp at h
  | x :: l, 0, r, h => by
    obtain rfl : x = r := by simpa using h
    simp [flatA]
  | x :: l, j + 1, r, h => by
    have h' : l[j]? = some r := by simpa using h
    have e : flatA (x :: l) = [.bool x.1, .int .i64 x.2, .slice none 0 0] ++ flatA l := rfl
    obtain ⟨q1, q2, q3⟩ := flatA_get l j r h'
    rw [e]
    refine ⟨?_, ?_, ?_⟩
    · rw [List.getElem?_append_right (by simp; omega)]; simpa [show (j + 1) * 3 - 3 = j * 3 by omega] using q1
    · rw [List.getElem?_append_right (by simp; omega)]; simpa [show (j + 1) * 3 + 1 - 3 = j * 3 + 1 by omega] using q2
    · rw [List.getElem?_append_right (by simp; omega)]; simpa [show (j + 1) * 3 + 2 - 3 = j * 3 + 2 by omega] using q3
theorem ansIn_row {lo : Nat} {own : Nat → Owner} {v : Value} {l : List (Bool × Int)} (h : AnsRow lo own w v l) : AnsIn w v l := by
  rcases h.1.2 with ⟨rfl, q⟩ | ⟨g, cap, cur, rfl, q1, q2, q3, q4, q5, q6⟩
  · exact ⟨none, 0, by rw [q], fun hne => absurd (List.length_eq_zero_iff.1 q) hne⟩
  · refine ⟨_, cap, rfl, fun hne => ⟨g, 0, rfl, fun j r hj => ?_⟩⟩
    have hlt := (List.getElem?_eq_some_iff.1 hj).1
    obtain ⟨a1, a2, a3⟩ := flatA_get l j r hj
    have get : ∀ i, i < l.length * 3 → cur[i]? = (flatA l)[i]? := fun i hi => by
      rw [← q6, List.getElem?_take_of_lt hi]
      simp
    rw [Nat.zero_add, cellAt q2, cellAt q2, cellAt q2, get _ (by omega), get _ (by omega), get _ (by omega)]
    exact ⟨a1, a2, a3⟩
theorem anssIn_rep {Y : BL} {m : BM} {own : Nat → Owner} (h : BRep Y m own w) (hk : ∀ (b : Nat) (c : Array Value) (t : TypeId), w.heap[b]? = some (Obj.cells c t (0, 0)) → t ≠ 63 → w'.heap[b]? = w.heap[b]?) : AnssIn w' (.slice (some ⟨Y.ar, 0, none⟩) Y.n Y.n) ((List.range Y.n).map m.an) := by
  obtain ⟨_, c, hc, hs, _, hr⟩ := h.ar
  refine ⟨_, Y.n, by simp, fun hne => ⟨Y.ar, 0, rfl, fun i l hi => ?_⟩⟩
  have hlt : i < Y.n := by
    have := (List.getElem?_eq_some_iff.1 hi).1
    simpa using this
  obtain rfl : m.an i = l := by simpa [hlt] using hi
  have hi' : i < c.size := by omega
  obtain ⟨r1, r2⟩ := hr i hlt
  refine ⟨c.getD i undef, ?_, ansIn_row (own := own) ⟨ownsRow_keep r1 fun g o hg hh => ?_, r2⟩⟩
  · rw [Nat.zero_add, cellAt ((hk _ _ 75 hc (by decide)).trans hc) i]
    simp [hi']
  · obtain ⟨cc, hcc⟩ := ownsRow_type r1 hg
    exact (hk _ _ 97 hcc (by decide)).trans hh
end
def trB (ws : List Int) (LL : List (List OpD)) (sch : List Int) (most : Int) : Tr :=
  ⟨(List.range (min LL.length 64)).map (gameB (min ws.length 65) ws LL sch most).m.an, (gameB (min ws.length 65) ws LL sch most).ord, wordsL (min ws.length 65) (gameB (min ws.length 65) ws LL sch most).m ++ [bit (gameB (min ws.length 65) ws LL sch most).m.al],
    decide (0 < leftO (gameB (min ws.length 65) ws LL sch most).co (min LL.length 64))⟩
set_option maxRecDepth 100000 in
set_option maxHeartbeats 1000000 in
theorem play_runs {Z : Machine → Trace → Prop} {c : Frame} {cs : List Frame} {w : World} {ws : List Int} {LL : List (List OpD)} {sch : List Int} {vw vt vs : Value} (hW : IntsIn w vw ws) (hT : ThrIn w vt LL) (hLL : LL.length ≤ 1000000000) (hws : ws.length ≤ 1000000000) (hS : IntsIn w vs sch) (hnS : sch.length ≤ 1048576) {most : Int} (hmost : most < 9223372036854775808)
    (h : ∀ tv w', TrIn w' tv (trB ws LL sch most) → (∀ b, b < w.heap.size → w'.heap[b]? = w.heap[b]?) → w.heap.size ≤ w'.heap.size → (w'.os = w.os ∧ w'.output = w.output) → RM Try.prog Z (G (c.finish tv) cs) w') :
    RM Try.prog Z (G (Frame.enter Try.prog 17 #[vw, vt, vs, .int .i64 most] .normal) (c :: cs)) w := by
  rw [enter_at _ Try.func17 rfl]
  simp only [Try.ntmps17, List.size_toArray, List.length_cons, List.length_nil, Nat.reduceAdd, Nat.reduceSub, Array.replicate_succ,
     Array.replicate_zero, List.push_toArray, List.append_toArray, List.nil_append, List.cons_append]
  replace h := Lib.hid h
  refine x_seqR rm_xc fun R0 hR0 => ?_
  refine rm_seg prg0 (calmCode_of ext_ok (by kernel_rfl)) rfl (calmRes_of Try.func17) rfl fun wp hp => ?_
  go_wp2_with fail
  refine fun wa ha => ?_
  have sz0 : wp.heap.size = w.heap.size := by rw [hp.heap]
  have szA : wa.heap.size = w.heap.size + 1 := by rw [ha.heap]; simp [sz0]
  have eA : wa.heap[w.heap.size]? = some (.cells #[.slice none 0 0, .slice none 0 0, .slice none 0 0, .bool false] 63 (0, 0)) := by rw [ha.heap, ← sz0]; exact heap_alloc_new _ _
  have lowA : ∀ b, b < w.heap.size → wa.heap[b]? = w.heap[b]? := fun b hb => by rw [ha.heap, Below.heap_alloc _ _ _ (by omega), hp.heap]
  have outA : wa.os = w.os ∧ wa.output = w.output := ⟨ha.outs.1.trans hp.outs.1, ha.outs.2.trans hp.outs.2⟩
  rw [sz0]
  clear ha hp sz0 wp
  obtain rfl := hR0.out
  clear hR0
  refine x_seqR rm_xc fun R0 hR0 => ?_
  refine rm_seg prg0 (calmCode_of ext_ok (by kernel_rfl)) rfl (calmRes_of Try.func17) rfl fun wp hp => ?_
  have hW0 := hW.1
  obtain ⟨hwI, aw, wcap, rfl, hwc, haw⟩ := hW
  have HN := Lib.hid (newWorld_walk ws wp (ad := aw) (cap := wcap) (fun hne => by
    obtain ⟨b, o, rfl, q⟩ := haw hne
    refine ⟨_, rfl, rfl, fun j hj => ?_⟩
    have q0 := q j (ws.getD j 0) (by rw [List.getD_eq_getElem?_getD, List.getElem?_eq_getElem hj]; rfl)
    have qb := World.block_lt_of_cell? w _ q0
    simp only at qb
    exact (World.cell?_of_block (w := w) (show wp.heap[b]? = w.heap[b]? by rw [hp.heap]; exact lowA b qb)).trans q0) hws)
  go_wp2_with (go_at_call 28; refine HN.out.mono ?_; rintro e w' ⟨wb, bb, v, v2, wd, rfl, n1, n2, f1, f2, f3, f4, f5, f6, f7, f8⟩; have NF0 := Lib.hid (show NewF wp w' ws (min ws.length 65) wb bb v v2 wd from ⟨n1, n2, f1, f2, f3, f4, f5, f6, f7⟩); replace f8 := Lib.hid f8; clear n1 n2 f1 f2 f3 f4 f5 f6 f7)
  refine fun w2 h2 => ?_
  have o2 : w2.os = w.os ∧ w2.output = w.output := ⟨((h2.outs.1.trans f8.out.1).trans hp.outs.1).trans outA.1, ((h2.outs.2.trans f8.out.2).trans hp.outs.2).trans outA.2⟩
  have NF := NF0.out.sim hp h2
  clear h2 NF0 f8 HN haw hwI hwc w'
  obtain rfl := hR0.out
  clear hR0 hp wp
  have hs2 : wa.heap.size ≤ w2.heap.size := by have := (Array.getElem?_eq_some_iff.1 NF.fwb).1; have := NF.n1; omega
  have lowA' : ∀ b, b < w.heap.size → wa.heap[b]? = w.heap[b]? := lowA
  have hT' := hT.keep lowA'
  have hS' := hS.keep lowA'
  refine x_seqR rm_xc fun R0 hR0 => ?_
  refine rm_reg 5 (by decide) (by decide) (calm0 (by kernel_rfl)) fun wp hp => ?_
  simp only [List.take_succ_cons, List.take_zero]
  replace hp := Lib.hid hp
  go_wp2_with fail
  refine rm_after rfl fun w3 h3 => ?_
  have h23 : w3.heap = w2.heap := h3.heap.trans hp.out.heap
  have o3 : w3.os = w.os ∧ w3.output = w.output := ⟨(h3.outs.1.trans hp.out.outs.1).trans o2.1, (h3.outs.2.trans hp.out.outs.2).trans o2.2⟩
  clear h3 hp wp
  have NF3 := NF.more (w2 := w3) fun b _ => by rw [h23]
  clear NF
  refine x_callF rm_xc rfl rfl (by decide) rfl Try.func29 (by kernel_rfl) (by kernel_rfl) ?_
  walk_nrm
  refine ops_runs (k := min ws.length 65) rfl hW0 NF3 hT' hLL hS' hnS hmost fun Y own' w4 vo hY Yk Yn Yw R4 low4 sz4 outs4 fr4 row4 => ?_
  have o4 : w4.os = w.os ∧ w4.output = w.output := ⟨outs4.1.trans o3.1, outs4.2.trans o3.2⟩
  rw [h23] at sz4
  clear NF3 h23 o3 outs4 hT' hS'
  rw [Frame.finish_at]
  refine rm_more 6 2 (by decide) (by decide) (calm0 (by kernel_rfl)) fun wp hp => ?_
  simp only [List.drop_succ_cons, List.drop_zero, List.take_succ_cons, List.take_zero]
  unfold traceV
  obtain ⟨vp, vc2, rfl⟩ := own_sl row4
  replace hp := Lib.hid hp
  replace row4 := Lib.hid row4
  go_wp2_with fail
  refine rm_after rfl fun w5 h5 => ?_
  refine x_regionEnd rm_xc ?_
  obtain rfl := hR0.out
  clear hR0
  have szp : wp.heap.size = w4.heap.size := by rw [hp.out.heap]
  rw [szp]
  obtain ⟨M, hM⟩ : ∃ M, w4.heap.size = M := ⟨_, rfl⟩
  have e5 : w5.heap[M]? = some (.cells #[.slice (some ⟨Y.ar, 0, none⟩) (min LL.length 64) (min LL.length 64), .slice vp (gameB (min ws.length 65) ws LL sch most).ord.length vc2, .slice none 0 0, .bool (decide (0 < leftO (gameB (min ws.length 65) ws LL sch most).co (min LL.length 64)))] 63 (0, 0)) := by
    rw [h5.heap, ← hM, ← szp]; exact heap_alloc_new _ _
  have low5 : ∀ b, b < M → w5.heap[b]? = w4.heap[b]? := fun b hb => by rw [h5.heap, Below.heap_alloc _ _ _ (by omega), hp.out.heap]
  have sz5 : w5.heap.size = M + 1 := by rw [h5.heap]; simp [szp, hM]
  have o5 : w5.os = w.os ∧ w5.output = w.output := ⟨(h5.outs.1.trans hp.out.outs.1).trans o4.1, (h5.outs.2.trans hp.out.outs.2).trans o4.2⟩
  have R5 : BRep Y (gameB (min ws.length 65) ws LL sch most).m own' w5 := BRep.local Y _ own' own' _ _ R4 fun b hb => ⟨hb, low5 b (by
    rcases Nat.lt_or_ge b M with q | q
    · exact q
    · rw [fr4 b (by omega)] at hb; cases hb)⟩
  have row5 : w5.ownsRow w3.heap.size 3 1 (.slice vp (gameB (min ws.length 65) ws LL sch most).ord.length vc2) (gameB (min ws.length 65) ws LL sch most).ord.length (intsL (gameB (min ws.length 65) ws LL sch most).ord) :=
    ownsRow_keep row4.out fun g o _ hh => (low5 g (by have := (Array.getElem?_eq_some_iff.1 hh).1; omega)).trans hh
  have eA5 : w5.heap[w.heap.size]? = some (.cells #[.slice none 0 0, .slice none 0 0, .slice none 0 0, .bool false] 63 (0, 0)) := (low5 _ (by omega)).trans ((low4 _ (by omega)).trans eA)
  have lowW : ∀ b, b < w.heap.size → w5.heap[b]? = w.heap[b]? := fun b hb => (low5 b (by omega)).trans ((low4 b (by omega)).trans (lowA b hb))
  rw [hM]
  clear h5 szp hp wp R4 row4 low4 low5 eA lowA lowA' outA o4 fr4
  refine x_seqR rm_xc fun R0 hR0 => ?_
  refine rm_seg prg0 (calmCode_of ext_ok (by kernel_rfl)) rfl (calmRes_of Try.func17) rfl fun wp hp => ?_
  have Rp : BRep Y (gameB (min ws.length 65) ws LL sch most).m own' wp := BRep.local Y _ own' own' _ _ R5 fun b hb => ⟨hb, by rw [hp.heap]⟩
  have HS := Lib.hid (state_walk hY Rp)
  rw [Yw] at HS
  generalize hgf : gameB (min ws.length 65) ws LL sch most = gf at *
  have lt5 := (Array.getElem?_eq_some_iff.1 e5).1
  replace hp := Lib.hid hp
  replace e5 := Lib.hid e5
  go_wp2_with (go_at_call 31; refine HS.out.mono ?_; rintro e w' ⟨sv, rfl, hrs, hbl⟩; rw [Yk] at hrs; obtain ⟨sp, sc, rfl⟩ := own_sl hrs; have e6 := (hbl.block M (by rw [hp.out.heap]; omega)).trans ((congrArg (·[M]?) hp.out.heap).trans e5.out); have c2 := cellAt e6 2; have z2 := freeAt e6 2; simp only [List.getElem?_toArray, List.getElem?_cons_zero, List.getElem?_cons_succ] at c2; replace hrs := Lib.hid hrs; replace hbl := Lib.hid hbl; replace e6 := Lib.hid e6)
  refine fun w6 h6 => ?_
  obtain rfl := hR0.out
  clear hR0
  have s6 := putAt e6.out 2 (.slice sp (min ws.length 65 + 1) sc)
  rw [← h6.heap] at s6
  simp only [List.size_toArray, List.length_cons, List.length_nil, List.setIfInBounds_toArray, List.set_cons_succ, List.set_cons_zero] at s6
  have k6 : ∀ b, b ≠ M → w6.heap[b]? = w'.heap[b]? := fun b hb => by rw [h6.heap]; exact Below.heap_setCell _ _ _ _ hb
  have z6 : w6.heap.size = w'.heap.size := by rw [h6.heap]; simp [World.setCell]
  have o6 : w6.os = w.os ∧ w6.output = w.output := ⟨((h6.outs.1.trans hbl.out.os).trans hp.out.outs.1).trans o5.1, ((h6.outs.2.trans hbl.out.output).trans hp.out.outs.2).trans o5.2⟩
  have szp : wp.heap.size = M + 1 := by rw [hp.out.heap]; exact sz5
  have k5 : ∀ b, b < M + 1 → w'.heap[b]? = w5.heap[b]? := fun b hb => (hbl.out.block b (by omega)).trans (congrArg (·[b]?) hp.out.heap)
  have z5 : M + 1 ≤ w'.heap.size := by have := hbl.out.size; omega
  have hlt0 : w.heap.size < M := by omega
  clear h6
  refine x_seqR rm_xc fun R0 hR0 => ?_
  refine rm_seg prg0 (calmCode_of ext_ok (by kernel_rfl)) rfl (calmRes_of Try.func17) rfl fun wq hq => ?_
  have g6 : wq.heap[M]? = _ := (congrArg (·[M]?) hq.heap).trans s6
  have g0 : wq.heap[w.heap.size]? = some (.cells #[.slice none 0 0, .slice none 0 0, .slice none 0 0, .bool false] 63 (0, 0)) := (congrArg (·[w.heap.size]?) hq.heap).trans ((k6 _ (by omega)).trans ((k5 _ (by omega)).trans eA5))
  have d0 := cellAt g6 0
  have d1 := cellAt g6 1
  have d2 := cellAt g6 2
  have d3 := cellAt g6 3
  have c0 := cellAt g0 0
  have c1 := cellAt g0 1
  have c3 := cellAt g0 3
  have c22 := cellAt g0 2
  have y0 := freeAt g0 0
  have y1 := freeAt g0 1
  have y2 := freeAt g0 2
  have y3 := freeAt g0 3
  simp only [List.getElem?_toArray, List.getElem?_cons_zero, List.getElem?_cons_succ] at c0 c1 c22 c3 d0 d1 d2 d3
  replace g0 := Lib.hid g0
  replace g6 := Lib.hid g6
  replace s6 := Lib.hid s6
  replace hq := Lib.hid hq
  clear c2 z2
  generalize hNN : w.heap.size = N at *
  go_wp2_with fail
  refine fun w8 h8 => ?_
  obtain ⟨s1, s2, s3⟩ := set4 (x := .slice (some ⟨Y.ar, 0, none⟩) (min LL.length 64) (min LL.length 64)) (y := .slice vp gf.ord.length vc2) (z := .slice sp (min ws.length 65 + 1) sc) (u := .bool (decide (0 < leftO gf.co (min LL.length 64)))) g0.out
  have hh := h8.heap
  rw [← hh] at s1 s2 s3
  have o8 : w8.os = w.os ∧ w8.output = w.output := ⟨(h8.outs.1.trans hq.out.outs.1).trans o6.1, (h8.outs.2.trans hq.out.outs.2).trans o6.2⟩
  have k8 : ∀ b, b ≠ N → w8.heap[b]? = w6.heap[b]? := fun b hb => (s2 b hb).trans (congrArg (·[b]?) hq.out.heap)
  have z8 : w8.heap.size = w'.heap.size := by rw [s3, hq.out.heap, z6]
  clear h8 hh s2 s3 c0 c1 c22 c3 y0 y1 y2 y3 d0 d1 d2 d3
  obtain rfl := hR0.out
  clear hR0
  refine x_ret rm_xc ?_
  refine x_leave rm_xc (calmRes_of Try.func17) (none_seats _) (v := .agg #[.slice (some ⟨Y.ar, 0, none⟩) (min LL.length 64) (min LL.length 64), .slice vp gf.ord.length vc2, .slice sp (min ws.length 65 + 1) sc, .bool (decide (0 < leftO gf.co (min LL.length 64)))]) (by
    rw [poi_none]
    exact ⟨rfl, rfl, rfl, _, Try.func17, results_cell_row rfl _ _ N 63 _ (0, 0) _ rfl s1 Try.underlying63 rfl size63⟩) ?_
  have e6' := e6.out
  have k63 : ∀ (b : Nat) (c : Array Value) (t : TypeId), w'.heap[b]? = some (Obj.cells c t (0, 0)) → t ≠ 63 → w8.heap[b]? = w'.heap[b]? := fun b c t hb ht => by
    have n1 : b ≠ N := fun z => by
      rw [z, k5 N (by omega), eA5] at hb
      simp at hb
      exact ht hb.2.symm
    have n2 : b ≠ M := fun z => by
      rw [z, e6'] at hb
      simp at hb
      exact ht hb.2.symm
    exact (k8 b n1).trans (k6 b n2)
  have k53 : ∀ (b : Nat) (c : Array Value) (t : TypeId), w5.heap[b]? = some (Obj.cells c t (0, 0)) → t ≠ 63 → w8.heap[b]? = w5.heap[b]? := fun b c t hb ht => by
    have hlt := (Array.getElem?_eq_some_iff.1 hb).1
    have q := k5 b (by omega)
    exact (k63 b c t (q.trans hb) ht).trans q
  have ra := anssIn_rep R5 k53
  have ro : IntsAt w8 (.slice vp gf.ord.length vc2) gf.ord := intsAt_row (ownsRow_keep row5 fun g o hg hh => by
    obtain ⟨cc, hcc⟩ := ownsRow_type row5 hg
    exact (k53 _ _ 3 hcc (by decide)).trans hh)
  have rs : IntsAt w8 (.slice sp (min ws.length 65 + 1) sc) (wordsL (min ws.length 65) gf.m ++ [bit gf.m.al]) := intsAt_row (ownsRow_keep hrs.out fun g o hg hh => by
    obtain ⟨cc, hcc⟩ := ownsRow_type hrs.out hg
    exact (k63 _ _ 2 hcc (by decide)).trans hh)
  rw [Yn] at ra
  refine h.out _ w8 ⟨.slice (some ⟨Y.ar, 0, none⟩) (min LL.length 64) (min LL.length 64), .slice vp gf.ord.length vc2, .slice sp (min ws.length 65 + 1) sc, ?_, ?_, ?_, ?_⟩ (fun b hb => (k8 b (by omega)).trans ((k6 b (by omega)).trans ((k5 b (by omega)).trans (lowW b hb)))) (by omega) o8
  · unfold trB; rw [hgf]
  · unfold trB; rw [hgf]; exact ra
  · unfold trB; rw [hgf]; exact ro
  · unfold trB; rw [hgf]; exact rs
end Go.Proofs.Ytimkkeomdkbcjaa

/-
  A region that draws its order, walked by what holds of each order's beginning. No condition of its own.
-/
namespace Go.Proofs.Ytimkkeomdkbcjaa
open Go.Conc Go.RowKit
theorem prg2 : Prg false Try.prog (· ∈ 18 :: calmL) := prg_of ext_ok (by kernel_rfl) (by kernel_rfl) (by kernel_rfl)
section
variable {P : Program} {D : Nat → Option (Nat × Nat)} {main : Bool} {K : World → Prop} {Still : Loc → Prop} {Inb : Nat → Option Seat} {GO : Goroutine → World → Prop} {b : Frame} {a : Act} {k : List Item} {cs : List Frame} {w : World} {ops : Array Oper}
theorem x_draws (X : XC P main K Still Inb GO) {id : Nat} (hm : P.follows .mixedOrders = true) (S : Seats D K Still Inb w)
    (h : ∀ r ∈ ordersT .any ops ops.size (Array.replicate ops.size false), GO (G (b.at a (.inRegion ops r :: k)) cs) w) : GO (G (b.at a (.code (.region id ops true) :: k)) cs) w := by
  refine X.go rfl fun d => ?_
  rw [stepG_region_draw, goes_go]
  refine ⟨⟨fun x => (S.at (d + 1)).keep (w.at d) _ ⟨Nat.le_refl _, S.okd, fun _ _ _ _ _ _ => rfl, fun _ _ _ _ _ _ _ _ => rfl, rfl, rfl⟩ x, fun _ _ _ _ _ => rfl, fun e he => by simp at he⟩, ?_⟩
  have e : ({ w.at d with drawn := (w.at d).drawn + 1 } : World) = w.at (d + 1) := rfl
  rw [e]
  refine X.at_ _ _ _ ?_
  simp only [Region.schedule, hm, Bool.true_or, if_true, Region.linearise]
  exact h _ (mem_ordersT _ _ _)
def unl (listed : Array Bool) : Nat := listed.toList.countP (! ·)
theorem getD_listed {listed : Array Bool} {i : Nat} (h : listed.getD i true = false) : ∃ hi : i < listed.size, listed[i] = false := by
  by_cases hi : i < listed.size
  · refine ⟨hi, ?_⟩
    simp [Array.getD, hi] at h
    exact h
  · simp [Array.getD, hi] at h
theorem unl_set {listed : Array Bool} {i : Nat} (h : listed.getD i true = false) : unl (listed.setIfInBounds i true) + 1 = unl listed := by
  obtain ⟨hi, e⟩ := getD_listed h
  unfold unl
  rw [Array.toList_setIfInBounds, List.countP_set (by simpa using hi)]
  have e1 : listed.toList[i]'(by simpa using hi) = false := by simpa using e
  have : 0 < listed.toList.countP (! ·) := List.countP_pos_iff.2 ⟨false, by rw [← e1]; exact List.getElem_mem _, rfl⟩
  simp only [e1, Bool.not_false, Bool.not_true, if_true, Bool.false_eq_true, if_false, reduceIte]
  omega
theorem ready_nil {listed : Array Bool} (h : unl listed = 0) : Region.ready .any ops listed = [] := by
  apply List.eq_nil_iff_forall_not_mem.2
  intro i hi
  have := unl_set (mem_ready.1 hi).1
  omega
theorem all_listed (hlow : ∀ (i : Nat) (o : Oper), ops[i]? = some o → ∀ e ∈ o.after, e.on < i) {listed : Array Bool} (hsz : listed.size = ops.size) (h : Region.ready .any ops listed = []) : ∀ i, i < ops.size → listed.getD i false = true := by
  intro i
  induction i using Nat.strongRecOn with
  | _ i ih =>
    intro hi
    cases hl : listed.getD i false with
    | true => rfl
    | false =>
      exfalso
      have : i ∈ Region.ready .any ops listed := mem_ready.2 ⟨by
        have hi' : i < listed.size := by omega
        simp [Array.getD, hi'] at hl ⊢
        exact hl, _, Array.getElem?_eq_getElem hi, fun e he _ => ih e.on (hlow i _ (Array.getElem?_eq_getElem hi) e he) (by have := hlow i _ (Array.getElem?_eq_getElem hi) e he; omega)⟩
      rw [h] at this
      cases this
theorem orders_all (I : Array Bool → Act → World → Prop) (hend : ∀ listed a w, listed.size = ops.size → Region.ready .any ops listed = [] → I listed a w → GO (G (b.at a (.inRegion ops [] :: k)) cs) w)
    (hstep : ∀ listed i, listed.size = ops.size → i ∈ Region.ready .any ops listed → ∀ a w (r : List Nat), I listed a w → (∀ a' w', I (listed.setIfInBounds i true) a' w' → GO (G (b.at a' (.inRegion ops r :: k)) cs) w') → GO (G (b.at a (.inRegion ops (i :: r) :: k)) cs) w) :
    ∀ (g : Nat) (listed : Array Bool) (r : List Nat), listed.size = ops.size → unl listed ≤ g → r ∈ ordersT .any ops g listed → ∀ a w, I listed a w → GO (G (b.at a (.inRegion ops r :: k)) cs) w
  | 0, listed, r, hs, hu, hr, a, w, hI => by
    obtain rfl : r = [] := by simpa [ordersT] using hr
    exact hend _ _ _ hs (ready_nil (by omega)) hI
  | g + 1, listed, r, hs, hu, hr, a, w, hI => by
    unfold ordersT at hr
    cases hrd : Region.ready .any ops listed with
    | nil =>
      rw [hrd] at hr
      obtain rfl : r = [] := by simpa using hr
      exact hend _ _ _ hs hrd hI
    | cons i0 rs =>
      rw [hrd] at hr
      simp only at hr
      obtain ⟨i, hi, hr⟩ := List.mem_flatMap.1 hr
      obtain ⟨r', hr', rfl⟩ := List.mem_map.1 hr
      rw [← hrd] at hi
      have hun := unl_set (mem_ready.1 hi).1
      exact hstep _ _ hs hi _ _ _ hI fun a' w' hI' => orders_all I hend hstep g _ _ (by simpa using hs) (by omega) hr' _ _ hI'
end
theorem rm_draws {P : Program} {Z : Machine → Trace → Prop} {b : Frame} {a : Act} {k : List Item} {cs : List Frame} {w : World} {ops : Array Oper} {id : Nat} (hm : P.follows .mixedOrders = true) (I : Array Bool → Act → World → Prop)
    (h0 : I (Array.replicate ops.size false) a w) (hend : ∀ listed a w, listed.size = ops.size → Region.ready .any ops listed = [] → I listed a w → RM P Z (G (b.at a (.inRegion ops [] :: k)) cs) w)
    (hstep : ∀ listed i, listed.size = ops.size → i ∈ Region.ready .any ops listed → ∀ a w (r : List Nat), I listed a w → (∀ a' w', I (listed.setIfInBounds i true) a' w' → RM P Z (G (b.at a' (.inRegion ops r :: k)) cs) w') → RM P Z (G (b.at a (.inRegion ops (i :: r) :: k)) cs) w) :
    RM P Z (G (b.at a (.code (.region id ops true) :: k)) cs) w :=
  x_draws rm_xc hm (none_seats w) fun r hr => orders_all I hend hstep _ _ r (by simp) (by
    unfold unl
    exact Nat.le_trans (List.countP_le_length) (by simp)) hr a w h0
end Go.Proofs.Ytimkkeomdkbcjaa

/-
  firsts (f19), alone. No condition of its own.
-/
namespace Go.Proofs.Ytimkkeomdkbcjaa
open Go.Conc Go.RowKit
end Go.Proofs.Ytimkkeomdkbcjaa

/-
  grown (f20), alone. No condition of its own.
-/
namespace Go.Proofs.Ytimkkeomdkbcjaa
open Go.Conc Go.RowKit
theorem info94 : (Try.prog.info? 94).map (fun i => (i.zero, i.size, i.bytes)) = some (some (.agg #[.int .i64 0, .int .i64 0, .int .i64 0, .int .i64 0]), 4, 32) := by kernel_rfl
def u64w (x : Int) : Int := IntKind.u64.wrap x
def growOp (n k : Nat) (o : OpD) : OpD :=
  if k < 2 then ⟨7, u64w o.a % n, u64w o.b % 4, 0⟩ else if o.kind.tmod 3 = 0 then ⟨2, 0, 0, 0⟩ else ⟨1, u64w o.a % 9, 1 + u64w o.b % 6, 1 + u64w o.c % 3⟩
def growL (n k : Nat) (l : List OpD) : List OpD := (l.take 8).map (growOp n k)
def flatO (l : List OpD) : List Value := l.flatMap fun o => [.int .i64 o.kind, .int .i64 o.a, .int .i64 o.b, .int .i64 o.c]
theorem flatO_snoc (l : List OpD) (o : OpD) : flatO (l ++ [o]) = flatO l ++ [.int .i64 o.kind, .int .i64 o.a, .int .i64 o.b, .int .i64 o.c] := by simp [flatO]
structure GrW (w0 : World) (N n : Nat) (LL : List (List OpD)) (S : Nat → Value) (j : Nat) (v : Value) (w : World) : Prop where
  out : w.ownsRow N 92 1 v j ((List.range j).map S)
  row : ∀ k, k < j → w.ownsRow N 94 4 (S k) (growL n k (LL.getD k [])).length (flatO (growL n k (LL.getD k [])))
  low : Below N w0 w
  nw : N ≤ w.heap.size
theorem ownsRow_base {w : World} {base base' n : Nat} {e : TypeId} {sz : Nat} {v : Value} {ys : List Value} (hb : base' ≤ base) (h : w.ownsRow base e sz v n ys) : w.ownsRow base' e sz v n ys := ⟨h.1, h.2.imp id fun ⟨g, cp, cur, a1, a2, a3⟩ => ⟨g, cp, cur, a1, Nat.le_trans hb a2, a3⟩⟩
theorem ownsRow_below {w w' : World} {base n N : Nat} {e : TypeId} {sz : Nat} {v : Value} {ys : List Value} (hN : N = w.heap.size) (hb : Below N w w') (h : w.ownsRow base e sz v n ys) : w'.ownsRow base e sz v n ys :=
  ownsRow_keep h fun g o _ hh => (hb.block g (by rw [hN]; exact (Array.getElem?_eq_some_iff.1 hh).1)).trans hh
theorem grown_belowQ {N : Nat} {w0 w w1 : World} {v : Value} {xs : List Value} {n : Nat} {e : TypeId} {sz : Nat} (h : w.ownsRow N e sz v n xs) (hb : Below N w0 w) (hN : N ≤ w.heap.size) (hg : w.grownBy w1 v.ownBlock) : Below N w0 w1 := by
  refine ⟨hg.os.trans hb.os, hg.tape.trans hb.tape, hg.output.trans hb.output, Nat.le_trans hb.size hg.size, fun b hlt => ?_⟩
  refine (hg.block b (by omega) fun q => ?_).trans (hb.block b hlt)
  have := (h.lt b q.symm).1
  omega
theorem src_oneQ (w1 : World) (k a b c : Int) : SrcQ (w1.alloc (.cells #[.int .i64 k, .int .i64 a, .int .i64 b, .int .i64 c] 94)) (.slice (some ⟨w1.heap.size, 0, none⟩) 1 1) 1 [.int .i64 k, .int .i64 a, .int .i64 b, .int .i64 c] :=
  ⟨rfl, by intro u hu; simp at hu; rcases hu with rfl | rfl | rfl | rfl <;> rfl, .inr ⟨_, 1, rfl, fun j u hj => by
    have e : (⟨w1.heap.size, 0, none⟩ : Addr).add j = ⟨w1.heap.size, j, none⟩ := by simp [Addr.add]; try (intro h; exact h.symm)
    rw [e, cellAt (heap_alloc_new w1 (.cells #[.int .i64 k, .int .i64 a, .int .i64 b, .int .i64 c] 94)) j]
    simpa using hj⟩⟩
theorem GrW.below {w0 w w' : World} {N n : Nat} {LL : List (List OpD)} {S : Nat → Value} {j : Nat} {v : Value} (h : GrW w0 N n LL S j v w) (hb : Below w.heap.size w w') : GrW w0 N n LL S j v w' :=
  ⟨ownsRow_below rfl hb h.out, fun k hk => ownsRow_below rfl hb (h.row k hk), h.low.trans (hb.mono h.nw), Nat.le_trans h.nw hb.size⟩
theorem GrW.more {w0 w w1 : World} {N B n : Nat} {LL : List (List OpD)} {S : Nat → Value} {j : Nat} {v v' u : Value} (h : GrW w0 N n LL S j v w) (hB : N ≤ B) (hr : w.ownsRow B 94 4 u (growL n j (LL.getD j [])).length (flatO (growL n j (LL.getD j []))))
    (hA : Appended (w.alloc (.cells #[u] 92)) N 92 v j 1 (((List.range j).map S) ++ [u]) v' w1) : (∃ g cap, v' = .slice (some ⟨g, 0, none⟩) (j + 1) cap) ∧ GrW w0 N n LL (Go.ConcN.upd S j u) (j + 1) v' w1 := by
  obtain ⟨ho, hg, hsh⟩ := hA
  have h2 := h.out.alloc (.cells #[u] 92)
  have keep : ∀ {x : Value} {m : Nat} {ys : List Value}, w.ownsRow B 94 4 x m ys ∨ w.ownsRow N 94 4 x m ys → w1.ownsRow N 94 4 x m ys := fun {x m ys} hx => by
    have hx' : w.ownsRow N 94 4 x m ys := hx.elim (ownsRow_base hB) id
    have hx2 := hx'.alloc (.cells #[u] 92)
    refine ownsRow_keep hx2 fun g o hgo hh => (hg.block g (Array.getElem?_eq_some_iff.1 hh).1 fun z => ?_).trans hh
    obtain ⟨cc, hcc⟩ := ownsRow_type h2 z.symm
    obtain ⟨cd, hcd⟩ := ownsRow_type hx2 hgo
    rw [hcc] at hcd
    simp at hcd
  refine ⟨?_, ?_, fun k hk => ?_, grown_belowQ h2 (h.low.alloc h.nw _) (by have := h.nw; simp; omega) hg, by have := hg.size; have := h.nw; simp at *; omega⟩
  · rcases hsh with ⟨_, _, z, _⟩ | ⟨g, cap, e, _⟩
    · cases z
    · exact ⟨g, cap, e⟩
  · rw [List.range_succ, List.map_append]
    have e : (List.range j).map (Go.ConcN.upd S j u) = (List.range j).map S := List.map_congr_left fun i hi => by
      have := List.mem_range.1 hi
      rw [Go.ConcN.upd_ne _ _ (by omega)]
    rw [e]
    simp only [List.map_cons, List.map_nil, Go.ConcN.upd_same]
    exact ho
  · by_cases z : k = j
    · subst z
      rw [Go.ConcN.upd_same]
      exact keep (.inl hr)
    · rw [Go.ConcN.upd_ne _ _ z]
      exact keep (.inr (h.row k (by omega)))
end Go.Proofs.Ytimkkeomdkbcjaa

/-
  The document's machine: held, tries (f71, f69); a thread's memory. No condition of its own.
-/
namespace Go.Proofs.Ytimkkeomdkbcjaa
open Go.Conc Go.RowKit
theorem held71_walk (x : Int) (w : World) : Calls Try.prog 71 #[.int .i64 x, .int .i64 1, .int .i64 1024] w fun e w' => e = .returned (.int .i64 (min (max x 1) 1024)) ∧ w' = w := by
  go_enter Try.func71, Try.ntmps71
  by_cases h1 : x < 1
  · go_wp2_with fail
    go_ret
    rw [show min (max x 1) 1024 = 1 by omega]
    exact ⟨rfl, rfl⟩
  · by_cases h2 : 1024 < x
    · go_wp2_with fail
      go_ret
      rw [show min (max x 1) 1024 = 1024 by omega]
      exact ⟨rfl, rfl⟩
    · go_wp2_with fail
      go_ret
      rw [show min (max x 1) 1024 = x by omega]
      exact ⟨rfl, rfl⟩
theorem tries_walk (x : Int) (w : World) : Calls Try.prog 69 #[.int .i64 x] w fun e w' => e = .returned (.int .i64 (min (max x 1) 1024)) ∧ w' = w := by
  have HH := Lib.hid (held71_walk x w)
  go_enter Try.func69, Try.ntmps69
  go_wp2_with (go_at_call 71; refine HH.out.mono ?_; rintro e w' ⟨rfl, rfl⟩)
  go_ret
  exact ⟨rfl, rfl⟩
structure RT where
  ops : List OpD
  i : Nat
  pc : Int
  n0 : Int
  n1 : Int
  n2 : Int
  ans : List (Bool × Int)
  ended : Bool
def thC (vo va : Value) (t : RT) : List Value := [vo, .int .i64 t.i, .int .i64 t.pc, .int .i64 t.n0, .int .i64 t.n1, .int .i64 t.n2, .int .i64 0, .int .i64 0, .int .i64 0, .int .i64 0, .int .i64 0, .slice none 0 0, va, .bool t.ended]
structure ThB (base : Nat) (ow : Nat → Nat) (j tb : Nat) (vo va : Value) (t : RT) (w : World) : Prop where
  blk : w.heap[tb]? = some (.cells (thC vo va t).toArray 116 (0, 0))
  lo : base ≤ tb
  rowO : w.ownsRow base 94 4 vo t.ops.length (flatO t.ops)
  rowA : w.ownsRow base 97 3 va t.ans.length (flatA t.ans)
  ow : ∀ g, va.ownBlock = some g → ow g = j
theorem ThB.cell {base : Nat} {ow : Nat → Nat} {j tb : Nat} {vo va : Value} {t : RT} {w : World} (h : ThB base ow j tb vo va t w) (k : Nat) : w.cell? ⟨tb, k, none⟩ = (thC vo va t)[k]? := by
  rw [cellAt h.blk k]
  simp
end Go.Proofs.Ytimkkeomdkbcjaa
