/-
  Merged out of: Play7 Rely0 Far0. No condition of its own.
-/
import Derived.Test.YtimkkeomdkbcjaaFarP35
/-
  A call of barrier.Play, beside goroutines that only leave. No condition of its own.
-/
namespace Go.Proofs.Ytimkkeomdkbcjaa
open Go.Conc Go.RowKit
set_option linter.unusedVariables false
set_option linter.unusedSimpArgs false

/-- What a trace tells. -/
structure Tr where
  ans : List (List (Bool × Int))
  ord : List Int
  st : List Int
  stuck : Bool
def IntsAt (w : World) (v : Value) (xs : List Int) : Prop :=
  ∃ a cap, v = .slice a xs.length cap ∧ (xs ≠ [] → ∃ b o, a = some ⟨b, o, none⟩ ∧ ∀ j x, xs[j]? = some x → w.cell? ⟨b, o + j, none⟩ = some (.int .i64 x))
def AnsIn (w : World) (v : Value) (l : List (Bool × Int)) : Prop :=
  ∃ a cap, v = .slice a l.length cap ∧ (l ≠ [] → ∃ b o, a = some ⟨b, o, none⟩ ∧ ∀ j r, l[j]? = some r → w.cell? ⟨b, o + j * 3, none⟩ = some (.bool r.1) ∧ w.cell? ⟨b, o + j * 3 + 1, none⟩ = some (.int .i64 r.2) ∧ w.cell? ⟨b, o + j * 3 + 2, none⟩ = some (.slice none 0 0))
def AnssIn (w : World) (v : Value) (ll : List (List (Bool × Int))) : Prop :=
  ∃ a cap, v = .slice a ll.length cap ∧ (ll ≠ [] → ∃ b o, a = some ⟨b, o, none⟩ ∧ ∀ i l, ll[i]? = some l → ∃ u, w.cell? ⟨b, o + i, none⟩ = some u ∧ AnsIn w u l)
def TrIn (w : World) (v : Value) (T : Tr) : Prop := ∃ va vo vs, v = .agg #[va, vo, vs, .bool T.stuck] ∧ AnssIn w va T.ans ∧ IntsAt w vo T.ord ∧ IntsAt w vs T.st
section
variable {w w' : World}
theorem cell_keep (h : ∀ b, b < w.heap.size → w'.heap[b]? = w.heap[b]?) {a : Addr} {v : Value} (hc : w.cell? a = some v) : w'.cell? a = some v :=
  (World.cell?_of_block (w := w) (h _ (World.block_lt_of_cell? w _ hc))).trans hc
theorem IntsAt.keep (h : ∀ b, b < w.heap.size → w'.heap[b]? = w.heap[b]?) {v : Value} {xs : List Int} (hx : IntsAt w v xs) : IntsAt w' v xs := by
  obtain ⟨a, cap, e, q⟩ := hx
  exact ⟨a, cap, e, fun hne => by
    obtain ⟨b, o, e1, q1⟩ := q hne
    exact ⟨b, o, e1, fun j x hj => cell_keep h (q1 j x hj)⟩⟩
theorem AnsIn.keep (h : ∀ b, b < w.heap.size → w'.heap[b]? = w.heap[b]?) {v : Value} {l : List (Bool × Int)} (hx : AnsIn w v l) : AnsIn w' v l := by
  obtain ⟨a, cap, e, q⟩ := hx
  exact ⟨a, cap, e, fun hne => by
    obtain ⟨b, o, e1, q1⟩ := q hne
    exact ⟨b, o, e1, fun j x hj => ⟨cell_keep h (q1 j x hj).1, cell_keep h (q1 j x hj).2.1, cell_keep h (q1 j x hj).2.2⟩⟩⟩
theorem TrIn.keep (h : ∀ b, b < w.heap.size → w'.heap[b]? = w.heap[b]?) {v : Value} {T : Tr} (hx : TrIn w v T) : TrIn w' v T := by
  obtain ⟨va, vo, vs, e, ⟨a, cap, e1, q⟩, h2, h3⟩ := hx
  exact ⟨va, vo, vs, e, ⟨a, cap, e1, fun hne => by
    obtain ⟨b, o, e2, q1⟩ := q hne
    exact ⟨b, o, e2, fun i l hi => by
      obtain ⟨u, c, ha⟩ := q1 i l hi
      exact ⟨u, cell_keep h c, ha.keep h⟩⟩⟩, h2.keep h, h3.keep h⟩
theorem IntsIn.keep (h : ∀ b, b < w.heap.size → w'.heap[b]? = w.heap[b]?) {v : Value} {xs : List Int} (hx : IntsIn w v xs) : IntsIn w' v xs := by
  obtain ⟨h0, a, cap, e, e', q⟩ := hx
  exact ⟨h0, a, cap, e, e', fun hne => by
    obtain ⟨b, o, e1, q1⟩ := q hne
    exact ⟨b, o, e1, fun j x hj => cell_keep h (q1 j x hj)⟩⟩
theorem OpsIn.keep (h : ∀ b, b < w.heap.size → w'.heap[b]? = w.heap[b]?) {a : Option Addr} {len cap : Nat} {L : List OpD} (hx : OpsIn w a len cap L) : OpsIn w' a len cap L := by
  obtain ⟨h0, e, e', q⟩ := hx
  exact ⟨h0, e, e', fun hne => by
    obtain ⟨b, o, e1, q1⟩ := q hne
    exact ⟨b, o, e1, fun j p hj => ⟨cell_keep h (q1 j p hj).1, cell_keep h (q1 j p hj).2.1, cell_keep h (q1 j p hj).2.2.1, cell_keep h (q1 j p hj).2.2.2⟩⟩⟩
theorem ThrIn.keep (h : ∀ b, b < w.heap.size → w'.heap[b]? = w.heap[b]?) {v : Value} {LL : List (List OpD)} (hx : ThrIn w v LL) : ThrIn w' v LL := by
  obtain ⟨a, cap, e, ob, ln, cp, q, q2⟩ := hx
  exact ⟨a, cap, e, ob, ln, cp, fun hne => by
    obtain ⟨b, o, e1, q1⟩ := q hne
    exact ⟨b, o, e1, fun i L hi => cell_keep h (q1 i L hi)⟩, fun i L hi => (q2 i L hi).keep h⟩
theorem NewF.sim {w0 w0' w w' : World} {ws : List Int} {k wb bb : Nat} {v v2 : Value} {wd : Nat → Nat} (h : NewF w0 w ws k wb bb v v2 wd) (h0 : Sim w0 w0') (h1 : Sim w' w) : NewF w0' w' ws k wb bb v v2 wd := by
  have e := h1.heap
  have e0 := h0.heap
  exact ⟨by rw [← e0]; exact h.n1, by rw [← e0]; exact h.n2, by rw [e]; exact h.fwb, by rw [← e0]; exact ownsRow_heap h.rv e, by rw [e]; exact h.fbb, by rw [← e0]; exact ownsRow_heap h.rv2 e, fun j hj => by rw [e, ← e0]; exact h.fwd j hj, h.inj, fun b hb => by rw [e, ← e0]; exact h.low b (by rw [e0]; exact hb)⟩
theorem intsAt_row {base e n : Nat} {v : Value} {xs : List Int} (h : w.ownsRow base e 1 v n (intsL xs)) : IntsAt w v xs := by
  have hl : xs.length = n := by have := h.1; rw [intsL_len] at this; omega
  subst hl
  obtain ⟨p, cap, e1, _, q⟩ := row_cells h
  refine ⟨p, cap, e1, fun hne => ?_⟩
  obtain ⟨g, c, e2, _, hg, hc⟩ := q (List.length_pos_iff.2 hne)
  refine ⟨g, 0, e2, fun j x hj => ?_⟩
  have hlt := (List.getElem?_eq_some_iff.1 hj).1
  rw [Nat.zero_add, cellAt hg j, hc j hlt]
  simp [intsL, hj]
theorem flatA_get : ∀ (l : List (Bool × Int)) (j : Nat) (r : Bool × Int), l[j]? = some r → (flatA l)[j * 3]? = some (.bool r.1) ∧ (flatA l)[j * 3 + 1]? = some (.int .i64 r.2) ∧ (flatA l)[j * 3 + 2]? = some (.slice none 0 0)
  | [], j, r, h => by simp at h
  | x :: l, 0, r, h => by
    obtain rfl : x = r := by simpa using h
    simp [flatA]
  | x :: l, j + 1, r, h => by
    have h' : l[j]? = some r := by simpa using h
    have e : flatA (x :: l) = [.bool x.1, .int .i64 x.2, .slice none 0 0] ++ flatA l := rfl
    obtain ⟨q1, q2, q3⟩ := flatA_get l j r h'
    rw [e]
    refine ⟨?_, ?_, ?_⟩
    · rw [List.getElem?_append_right (by simp; omega)]; simpa [show (j + 1) * 3 - 3 = j * 3 by omega] using q1
    · rw [List.getElem?_append_right (by simp; omega)]; simpa [show (j + 1) * 3 + 1 - 3 = j * 3 + 1 by omega] using q2
    · rw [List.getElem?_append_right (by simp; omega)]; simpa [show (j + 1) * 3 + 2 - 3 = j * 3 + 2 by omega] using q3
theorem ansIn_row {lo : Nat} {own : Nat → Owner} {v : Value} {l : List (Bool × Int)} (h : AnsRow lo own w v l) : AnsIn w v l := by
  rcases h.1.2 with ⟨rfl, q⟩ | ⟨g, cap, cur, rfl, q1, q2, q3, q4, q5, q6⟩
  · exact ⟨none, 0, by rw [q], fun hne => absurd (List.length_eq_zero_iff.1 q) hne⟩
  · refine ⟨_, cap, rfl, fun hne => ⟨g, 0, rfl, fun j r hj => ?_⟩⟩
    have hlt := (List.getElem?_eq_some_iff.1 hj).1
    obtain ⟨a1, a2, a3⟩ := flatA_get l j r hj
    have get : ∀ i, i < l.length * 3 → cur[i]? = (flatA l)[i]? := fun i hi => by
      rw [← q6, List.getElem?_take_of_lt hi]
      simp
    rw [Nat.zero_add, cellAt q2, cellAt q2, cellAt q2, get _ (by omega), get _ (by omega), get _ (by omega)]
    exact ⟨a1, a2, a3⟩
theorem anssIn_rep {Y : BL} {m : BM} {own : Nat → Owner} (h : BRep Y m own w) (hk : ∀ (b : Nat) (c : Array Value) (t : TypeId), w.heap[b]? = some (Obj.cells c t (0, 0)) → t ≠ 63 → w'.heap[b]? = w.heap[b]?) : AnssIn w' (.slice (some ⟨Y.ar, 0, none⟩) Y.n Y.n) ((List.range Y.n).map m.an) := by
  obtain ⟨_, c, hc, hs, _, hr⟩ := h.ar
  refine ⟨_, Y.n, by simp, fun hne => ⟨Y.ar, 0, rfl, fun i l hi => ?_⟩⟩
  have hlt : i < Y.n := by
    have := (List.getElem?_eq_some_iff.1 hi).1
    simpa using this
  obtain rfl : m.an i = l := by simpa [hlt] using hi
  have hi' : i < c.size := by omega
  obtain ⟨r1, r2⟩ := hr i hlt
  refine ⟨c.getD i undef, ?_, ansIn_row (own := own) ⟨ownsRow_keep r1 fun g o hg hh => ?_, r2⟩⟩
  · rw [Nat.zero_add, cellAt ((hk _ _ 75 hc (by decide)).trans hc) i]
    simp [hi']
  · obtain ⟨cc, hcc⟩ := ownsRow_type r1 hg
    exact (hk _ _ 97 hcc (by decide)).trans hh
end
/-- What barrier.Play tells. -/
def trB (ws : List Int) (LL : List (List OpD)) (sch : List Int) (most : Int) : Tr :=
  ⟨(List.range (min LL.length 64)).map (gameB (min ws.length 65) ws LL sch most).m.an, (gameB (min ws.length 65) ws LL sch most).ord, wordsL (min ws.length 65) (gameB (min ws.length 65) ws LL sch most).m ++ [bit (gameB (min ws.length 65) ws LL sch most).m.al],
    decide (0 < leftO (gameB (min ws.length 65) ws LL sch most).co (min LL.length 64))⟩
set_option maxRecDepth 100000 in
set_option maxHeartbeats 1000000 in
theorem play_runs {Z : Machine → Trace → Prop} {c : Frame} {cs : List Frame} {w : World} {ws : List Int} {LL : List (List OpD)} {sch : List Int} {vw vt vs : Value} (hW : IntsIn w vw ws) (hT : ThrIn w vt LL) (hLL : LL.length ≤ 1000000000) (hws : ws.length ≤ 1000000000) (hS : IntsIn w vs sch) (hnS : sch.length ≤ 1048576) {most : Int} (hmost : most < 9223372036854775808)
    (h : ∀ tv w', TrIn w' tv (trB ws LL sch most) → (∀ b, b < w.heap.size → w'.heap[b]? = w.heap[b]?) → w.heap.size ≤ w'.heap.size → (w'.os = w.os ∧ w'.output = w.output) → RM Try.prog Z (G (c.finish tv) cs) w') :
    RM Try.prog Z (G (Frame.enter Try.prog 17 #[vw, vt, vs, .int .i64 most] .normal) (c :: cs)) w := by
  rw [enter_at _ Try.func17 rfl]
  simp only [Try.ntmps17, List.size_toArray, List.length_cons, List.length_nil, Nat.reduceAdd, Nat.reduceSub, Array.replicate_succ,
     Array.replicate_zero, List.push_toArray, List.append_toArray, List.nil_append, List.cons_append]
  replace h := Lib.hid h
  refine x_seqR rm_xc fun R0 hR0 => ?_
  refine rm_seg prg0 (calmCode_of ext_ok (by kernel_rfl)) rfl (calmRes_of Try.func17) rfl fun wp hp => ?_
  go_wp2_with fail
  refine fun wa ha => ?_
  have sz0 : wp.heap.size = w.heap.size := by rw [hp.heap]
  have szA : wa.heap.size = w.heap.size + 1 := by rw [ha.heap]; simp [sz0]
  have eA : wa.heap[w.heap.size]? = some (.cells #[.slice none 0 0, .slice none 0 0, .slice none 0 0, .bool false] 63 (0, 0)) := by rw [ha.heap, ← sz0]; exact heap_alloc_new _ _
  have lowA : ∀ b, b < w.heap.size → wa.heap[b]? = w.heap[b]? := fun b hb => by rw [ha.heap, Below.heap_alloc _ _ _ (by omega), hp.heap]
  have outA : wa.os = w.os ∧ wa.output = w.output := ⟨ha.outs.1.trans hp.outs.1, ha.outs.2.trans hp.outs.2⟩
  rw [sz0]
  clear ha hp sz0 wp
  obtain rfl := hR0.out
  clear hR0
  -- the world
  refine x_seqR rm_xc fun R0 hR0 => ?_
  refine rm_seg prg0 (calmCode_of ext_ok (by kernel_rfl)) rfl (calmRes_of Try.func17) rfl fun wp hp => ?_
  have hW0 := hW.1
  obtain ⟨hwI, aw, wcap, rfl, hwc, haw⟩ := hW
  have HN := Lib.hid (newWorld_walk ws wp (ad := aw) (cap := wcap) (fun hne => by
    obtain ⟨b, o, rfl, q⟩ := haw hne
    refine ⟨_, rfl, rfl, fun j hj => ?_⟩
    have q0 := q j (ws.getD j 0) (by rw [List.getD_eq_getElem?_getD, List.getElem?_eq_getElem hj]; rfl)
    have qb := World.block_lt_of_cell? w _ q0
    simp only at qb
    exact (World.cell?_of_block (w := w) (show wp.heap[b]? = w.heap[b]? by rw [hp.heap]; exact lowA b qb)).trans q0) hws)
  go_wp2_with (go_at_call 28; refine HN.out.mono ?_; rintro e w' ⟨wb, bb, v, v2, wd, rfl, n1, n2, f1, f2, f3, f4, f5, f6, f7, f8⟩; have NF0 := Lib.hid (show NewF wp w' ws (min ws.length 65) wb bb v v2 wd from ⟨n1, n2, f1, f2, f3, f4, f5, f6, f7⟩); replace f8 := Lib.hid f8; clear n1 n2 f1 f2 f3 f4 f5 f6 f7)
  refine fun w2 h2 => ?_
  have o2 : w2.os = w.os ∧ w2.output = w.output := ⟨((h2.outs.1.trans f8.out.1).trans hp.outs.1).trans outA.1, ((h2.outs.2.trans f8.out.2).trans hp.outs.2).trans outA.2⟩
  have NF := NF0.out.sim hp h2
  clear h2 NF0 f8 HN haw hwI hwc w'
  obtain rfl := hR0.out
  clear hR0 hp wp
  have hs2 : wa.heap.size ≤ w2.heap.size := by have := (Array.getElem?_eq_some_iff.1 NF.fwb).1; have := NF.n1; omega
  have lowA' : ∀ b, b < w.heap.size → wa.heap[b]? = w.heap[b]? := lowA
  have hT' := hT.keep lowA'
  have hS' := hS.keep lowA'
  -- the threads
  refine x_seqR rm_xc fun R0 hR0 => ?_
  refine rm_reg 5 (by decide) (by decide) (calm0 (by kernel_rfl)) fun wp hp => ?_
  simp only [List.take_succ_cons, List.take_zero]
  replace hp := Lib.hid hp
  go_wp2_with fail
  refine rm_after rfl fun w3 h3 => ?_
  have h23 : w3.heap = w2.heap := h3.heap.trans hp.out.heap
  have o3 : w3.os = w.os ∧ w3.output = w.output := ⟨(h3.outs.1.trans hp.out.outs.1).trans o2.1, (h3.outs.2.trans hp.out.outs.2).trans o2.2⟩
  clear h3 hp wp
  have NF3 := NF.more (w2 := w3) fun b _ => by rw [h23]
  clear NF
  refine x_callF rm_xc rfl rfl (by decide) rfl Try.func29 (by kernel_rfl) (by kernel_rfl) ?_
  walk_nrm
  refine ops_runs (k := min ws.length 65) rfl hW0 NF3 hT' hLL hS' hnS hmost fun Y own' w4 vo hY Yk Yn Yw R4 low4 sz4 outs4 fr4 row4 => ?_
  have o4 : w4.os = w.os ∧ w4.output = w.output := ⟨outs4.1.trans o3.1, outs4.2.trans o3.2⟩
  rw [h23] at sz4
  clear NF3 h23 o3 outs4 hT' hS'
  rw [Frame.finish_at]
  refine rm_more 6 2 (by decide) (by decide) (calm0 (by kernel_rfl)) fun wp hp => ?_
  simp only [List.drop_succ_cons, List.drop_zero, List.take_succ_cons, List.take_zero]
  unfold traceV
  obtain ⟨vp, vc2, rfl⟩ := own_sl row4
  replace hp := Lib.hid hp
  replace row4 := Lib.hid row4
  go_wp2_with fail
  refine rm_after rfl fun w5 h5 => ?_
  refine x_regionEnd rm_xc ?_
  obtain rfl := hR0.out
  clear hR0
  have szp : wp.heap.size = w4.heap.size := by rw [hp.out.heap]
  rw [szp]
  obtain ⟨M, hM⟩ : ∃ M, w4.heap.size = M := ⟨_, rfl⟩
  have e5 : w5.heap[M]? = some (.cells #[.slice (some ⟨Y.ar, 0, none⟩) (min LL.length 64) (min LL.length 64), .slice vp (gameB (min ws.length 65) ws LL sch most).ord.length vc2, .slice none 0 0, .bool (decide (0 < leftO (gameB (min ws.length 65) ws LL sch most).co (min LL.length 64)))] 63 (0, 0)) := by
    rw [h5.heap, ← hM, ← szp]; exact heap_alloc_new _ _
  have low5 : ∀ b, b < M → w5.heap[b]? = w4.heap[b]? := fun b hb => by rw [h5.heap, Below.heap_alloc _ _ _ (by omega), hp.out.heap]
  have sz5 : w5.heap.size = M + 1 := by rw [h5.heap]; simp [szp, hM]
  have o5 : w5.os = w.os ∧ w5.output = w.output := ⟨(h5.outs.1.trans hp.out.outs.1).trans o4.1, (h5.outs.2.trans hp.out.outs.2).trans o4.2⟩
  have R5 : BRep Y (gameB (min ws.length 65) ws LL sch most).m own' w5 := BRep.local Y _ own' own' _ _ R4 fun b hb => ⟨hb, low5 b (by
    rcases Nat.lt_or_ge b M with q | q
    · exact q
    · rw [fr4 b (by omega)] at hb; cases hb)⟩
  have row5 : w5.ownsRow w3.heap.size 3 1 (.slice vp (gameB (min ws.length 65) ws LL sch most).ord.length vc2) (gameB (min ws.length 65) ws LL sch most).ord.length (intsL (gameB (min ws.length 65) ws LL sch most).ord) :=
    ownsRow_keep row4.out fun g o _ hh => (low5 g (by have := (Array.getElem?_eq_some_iff.1 hh).1; omega)).trans hh
  have eA5 : w5.heap[w.heap.size]? = some (.cells #[.slice none 0 0, .slice none 0 0, .slice none 0 0, .bool false] 63 (0, 0)) := (low5 _ (by omega)).trans ((low4 _ (by omega)).trans eA)
  have lowW : ∀ b, b < w.heap.size → w5.heap[b]? = w.heap[b]? := fun b hb => (low5 b (by omega)).trans ((low4 b (by omega)).trans (lowA b hb))
  rw [hM]
  clear h5 szp hp wp R4 row4 low4 low5 eA lowA lowA' outA o4 fr4
  -- the state
  refine x_seqR rm_xc fun R0 hR0 => ?_
  refine rm_seg prg0 (calmCode_of ext_ok (by kernel_rfl)) rfl (calmRes_of Try.func17) rfl fun wp hp => ?_
  have Rp : BRep Y (gameB (min ws.length 65) ws LL sch most).m own' wp := BRep.local Y _ own' own' _ _ R5 fun b hb => ⟨hb, by rw [hp.heap]⟩
  have HS := Lib.hid (state_walk hY Rp)
  rw [Yw] at HS
  generalize hgf : gameB (min ws.length 65) ws LL sch most = gf at *
  have lt5 := (Array.getElem?_eq_some_iff.1 e5).1
  replace hp := Lib.hid hp
  replace e5 := Lib.hid e5
  go_wp2_with (go_at_call 31; refine HS.out.mono ?_; rintro e w' ⟨sv, rfl, hrs, hbl⟩; rw [Yk] at hrs; obtain ⟨sp, sc, rfl⟩ := own_sl hrs; have e6 := (hbl.block M (by rw [hp.out.heap]; omega)).trans ((congrArg (·[M]?) hp.out.heap).trans e5.out); have c2 := cellAt e6 2; have z2 := freeAt e6 2; simp only [List.getElem?_toArray, List.getElem?_cons_zero, List.getElem?_cons_succ] at c2; replace hrs := Lib.hid hrs; replace hbl := Lib.hid hbl; replace e6 := Lib.hid e6)
  refine fun w6 h6 => ?_
  obtain rfl := hR0.out
  clear hR0
  have s6 := putAt e6.out 2 (.slice sp (min ws.length 65 + 1) sc)
  rw [← h6.heap] at s6
  simp only [List.size_toArray, List.length_cons, List.length_nil, List.setIfInBounds_toArray, List.set_cons_succ, List.set_cons_zero] at s6
  have k6 : ∀ b, b ≠ M → w6.heap[b]? = w'.heap[b]? := fun b hb => by rw [h6.heap]; exact Below.heap_setCell _ _ _ _ hb
  have z6 : w6.heap.size = w'.heap.size := by rw [h6.heap]; simp [World.setCell]
  have o6 : w6.os = w.os ∧ w6.output = w.output := ⟨((h6.outs.1.trans hbl.out.os).trans hp.out.outs.1).trans o5.1, ((h6.outs.2.trans hbl.out.output).trans hp.out.outs.2).trans o5.2⟩
  have szp : wp.heap.size = M + 1 := by rw [hp.out.heap]; exact sz5
  have k5 : ∀ b, b < M + 1 → w'.heap[b]? = w5.heap[b]? := fun b hb => (hbl.out.block b (by omega)).trans (congrArg (·[b]?) hp.out.heap)
  have z5 : M + 1 ≤ w'.heap.size := by have := hbl.out.size; omega
  have hlt0 : w.heap.size < M := by omega
  clear h6
  -- the result
  refine x_seqR rm_xc fun R0 hR0 => ?_
  refine rm_seg prg0 (calmCode_of ext_ok (by kernel_rfl)) rfl (calmRes_of Try.func17) rfl fun wq hq => ?_
  have g6 : wq.heap[M]? = _ := (congrArg (·[M]?) hq.heap).trans s6
  have g0 : wq.heap[w.heap.size]? = some (.cells #[.slice none 0 0, .slice none 0 0, .slice none 0 0, .bool false] 63 (0, 0)) := (congrArg (·[w.heap.size]?) hq.heap).trans ((k6 _ (by omega)).trans ((k5 _ (by omega)).trans eA5))
  have d0 := cellAt g6 0
  have d1 := cellAt g6 1
  have d2 := cellAt g6 2
  have d3 := cellAt g6 3
  have c0 := cellAt g0 0
  have c1 := cellAt g0 1
  have c3 := cellAt g0 3
  have c22 := cellAt g0 2
  have y0 := freeAt g0 0
  have y1 := freeAt g0 1
  have y2 := freeAt g0 2
  have y3 := freeAt g0 3
  simp only [List.getElem?_toArray, List.getElem?_cons_zero, List.getElem?_cons_succ] at c0 c1 c22 c3 d0 d1 d2 d3
  replace g0 := Lib.hid g0
  replace g6 := Lib.hid g6
  replace s6 := Lib.hid s6
  replace hq := Lib.hid hq
  clear c2 z2
  generalize hNN : w.heap.size = N at *
  go_wp2_with fail
  refine fun w8 h8 => ?_
  obtain ⟨s1, s2, s3⟩ := set4 (x := .slice (some ⟨Y.ar, 0, none⟩) (min LL.length 64) (min LL.length 64)) (y := .slice vp gf.ord.length vc2) (z := .slice sp (min ws.length 65 + 1) sc) (u := .bool (decide (0 < leftO gf.co (min LL.length 64)))) g0.out
  have hh := h8.heap
  rw [← hh] at s1 s2 s3
  have o8 : w8.os = w.os ∧ w8.output = w.output := ⟨(h8.outs.1.trans hq.out.outs.1).trans o6.1, (h8.outs.2.trans hq.out.outs.2).trans o6.2⟩
  have k8 : ∀ b, b ≠ N → w8.heap[b]? = w6.heap[b]? := fun b hb => (s2 b hb).trans (congrArg (·[b]?) hq.out.heap)
  have z8 : w8.heap.size = w'.heap.size := by rw [s3, hq.out.heap, z6]
  clear h8 hh s2 s3 c0 c1 c22 c3 y0 y1 y2 y3 d0 d1 d2 d3
  obtain rfl := hR0.out
  clear hR0
  refine x_ret rm_xc ?_
  refine x_leave rm_xc (calmRes_of Try.func17) (none_seats _) (v := .agg #[.slice (some ⟨Y.ar, 0, none⟩) (min LL.length 64) (min LL.length 64), .slice vp gf.ord.length vc2, .slice sp (min ws.length 65 + 1) sc, .bool (decide (0 < leftO gf.co (min LL.length 64)))]) (by
    rw [poi_none]
    exact ⟨rfl, rfl, rfl, _, Try.func17, results_cell_row rfl _ _ N 63 _ (0, 0) _ rfl s1 Try.underlying63 rfl size63⟩) ?_
  have e6' := e6.out
  have k63 : ∀ (b : Nat) (c : Array Value) (t : TypeId), w'.heap[b]? = some (Obj.cells c t (0, 0)) → t ≠ 63 → w8.heap[b]? = w'.heap[b]? := fun b c t hb ht => by
    have n1 : b ≠ N := fun z => by
      rw [z, k5 N (by omega), eA5] at hb
      simp at hb
      exact ht hb.2.symm
    have n2 : b ≠ M := fun z => by
      rw [z, e6'] at hb
      simp at hb
      exact ht hb.2.symm
    exact (k8 b n1).trans (k6 b n2)
  have k53 : ∀ (b : Nat) (c : Array Value) (t : TypeId), w5.heap[b]? = some (Obj.cells c t (0, 0)) → t ≠ 63 → w8.heap[b]? = w5.heap[b]? := fun b c t hb ht => by
    have hlt := (Array.getElem?_eq_some_iff.1 hb).1
    have q := k5 b (by omega)
    exact (k63 b c t (q.trans hb) ht).trans q
  have ra := anssIn_rep R5 k53
  have ro : IntsAt w8 (.slice vp gf.ord.length vc2) gf.ord := intsAt_row (ownsRow_keep row5 fun g o hg hh => by
    obtain ⟨cc, hcc⟩ := ownsRow_type row5 hg
    exact (k53 _ _ 3 hcc (by decide)).trans hh)
  have rs : IntsAt w8 (.slice sp (min ws.length 65 + 1) sc) (wordsL (min ws.length 65) gf.m ++ [bit gf.m.al]) := intsAt_row (ownsRow_keep hrs.out fun g o hg hh => by
    obtain ⟨cc, hcc⟩ := ownsRow_type hrs.out hg
    exact (k63 _ _ 2 hcc (by decide)).trans hh)
  rw [Yn] at ra
  refine h.out _ w8 ⟨.slice (some ⟨Y.ar, 0, none⟩) (min LL.length 64) (min LL.length 64), .slice vp gf.ord.length vc2, .slice sp (min ws.length 65 + 1) sc, ?_, ?_, ?_, ?_⟩ (fun b hb => (k8 b (by omega)).trans ((k6 b (by omega)).trans ((k5 b (by omega)).trans (lowW b hb)))) (by omega) o8
  · unfold trB; rw [hgf]
  · unfold trB; rw [hgf]; exact ra
  · unfold trB; rw [hgf]; exact ro
  · unfold trB; rw [hgf]; exact rs
end Go.Proofs.Ytimkkeomdkbcjaa

/-
  THE GAME, by rely and guarantee: where each thread keeps its word whatever the others do, and steps no more than a number of times, the game is over in time and each thread has come to its end. No program in sight.
-/
namespace Go.Proofs.Ytimkkeomdkbcjaa
open Go.ConcN (upd upd_ne upd_same sumTo sumTo_upd le_sumTo)
set_option linter.unusedVariables false
set_option linter.unusedSimpArgs false

section
variable {M : Type}
/-- What is left of a thread, from the state at which it stopped: the others move by R, it moves by G; N steps at most; Fin holds behind its end. -/
inductive OkC (R G : M → M → Prop) (Fin : M → Prop) : Nat → M → Co M → Prop
  | fin {N : Nat} {m : M} (h : ∀ m', R m m' → Fin m') : OkC R G Fin N m .fin
  | step {N : Nat} {m : M} {nx : M → M} {mo : M → Co M} (hg : ∀ m', R m m' → G m' (nx m')) (ho : ∀ m', R m m' → OkC R G Fin N (nx m') (mo m')) : OkC R G Fin (N + 1) m (.step nx mo)
def OkF (R G : M → M → Prop) (Fin : M → Prop) (N : Nat) (m : M) (κ : Fu M) : Prop := G m (κ m).1 ∧ OkC R G Fin N (κ m).1 (κ m).2
variable {R G : M → M → Prop} {Fin : M → Prop}
theorem OkC.mono {N N' : Nat} {m : M} {c : Co M} (h : OkC R G Fin N m c) (hN : N ≤ N') : OkC R G Fin N' m c := by
  induction h generalizing N' with
  | fin h => exact .fin h
  | step hg h ih =>
    obtain ⟨K, rfl⟩ : ∃ K, N' = K + 1 := ⟨N' - 1, by omega⟩
    exact .step hg fun m' hr => ih m' hr (by omega)
theorem OkF.mono {N N' : Nat} {m : M} {κ : Fu M} (h : OkF R G Fin N m κ) (hN : N ≤ N') : OkF R G Fin N' m κ := ⟨h.1, h.2.mono hN⟩
theorem okF_step {N : Nat} {m : M} {κ : Fu M} (hg : G m m) (h : ∀ m', R m m' → OkF R G Fin N m' κ) : OkF R G Fin (N + 1) m (stepF κ) :=
  ⟨hg, .step (fun m' hr => (h m' hr).1) fun m' hr => (h m' hr).2⟩
theorem okF_fin {N : Nat} {m : M} (hg : G m m) (h : ∀ m', R m m' → Fin m') : OkF R G Fin N m (fun m => (m, .fin)) := ⟨hg, .fin h⟩
theorem OkF.back (hG : ∀ a b c, G a b → G b c → G a c) {N : Nat} {m0 m : M} {κ : Fu M} (h0 : G m0 m) (h : OkF R G Fin N m κ) : G m0 (κ m).1 ∧ OkC R G Fin N (κ m).1 (κ m).2 := ⟨hG _ _ _ h0 h.1, h.2⟩
end
section
variable {M : Type} {R G : Nat → M → M → Prop} {Fin : Nat → M → Prop} {Inv : M → Prop} {n mo : Nat}
/-- The game as it goes. -/
def GameI (R G : Nat → M → M → Prop) (Fin : Nat → M → Prop) (Inv : M → Prop) (n mo : Nat) (s : GSt M) : Prop :=
  Inv s.m ∧ ∃ N : Nat → Nat, (∀ i, i < n → ∃ mi, R i mi s.m ∧ OkC (R i) (G i) (Fin i) (N i) mi (s.co i)) ∧ s.ord.length + sumTo n N ≤ mo
variable (hRr : ∀ i m, Inv m → R i m m) (hRt : ∀ i a b c, R i a b → R i b c → R i a c) (hGR : ∀ i j a b, i ≠ j → G i a b → R j a b) (hGI : ∀ i a b, G i a b → Inv b)
include hRr hRt hGR hGI
theorem game_step {s : GSt M} (h : GameI R G Fin Inv n mo s) (i : Int) : GameI R G Fin Inv n mo (stepO n mo s i) := by
  unfold stepO
  split
  · rename_i hh
    obtain ⟨k, rfl⟩ : ∃ k : Nat, i = k := ⟨i.toNat, by omega⟩
    have hk : k < n := by omega
    rw [Int.toNat_natCast]
    cases hc : s.co k with
    | fin => exact h
    | step nx mr =>
      obtain ⟨hI, N, hN, hsum⟩ := h
      obtain ⟨mi, hr, ho⟩ := hN k hk
      rw [hc] at ho
      generalize hNk : N k = Nk at ho
      cases ho with
      | @step Nr _ _ _ hg ho =>
        have hg := hg _ hr
        have ho' := ho _ hr
        refine ⟨hGI _ _ _ hg, Go.ConcN.upd (α := Nat) N k Nr, fun j hj => ?_, ?_⟩
        · by_cases e : j = k
          · subst e
            simp only [upd_same]
            exact ⟨_, hRr _ _ (hGI _ _ _ hg), ho'⟩
          · obtain ⟨mj, hrj, hoj⟩ := hN j hj
            simp only [upd_ne _ _ e]
            exact ⟨mj, hRt _ _ _ _ hrj (hGR _ _ _ _ (fun z => e z.symm) hg), hoj⟩
        · have := sumTo_upd N Nr id hk
          simp only [id] at this
          change sumTo n (Go.ConcN.upd (α := Nat) N k Nr) + N k = sumTo n N + Nr at this
          show (s.ord ++ [(k : Int)]).length + _ ≤ mo
          simp only [List.length_append, List.length_cons, List.length_nil]
          omega
  · exact h
theorem game_fold {s : GSt M} (h : GameI R G Fin Inv n mo s) : ∀ l : List Int, GameI R G Fin Inv n mo (foldO n mo s l)
  | [] => h
  | i :: l => game_fold (game_step hRr hRt hGR hGI h i) l
omit hRr hRt hGR hGI in
theorem game_left {s : GSt M} (h : GameI R G Fin Inv n mo s) (hm : mo ≤ s.ord.length) : leftO s.co n = 0 := by
  rcases Nat.eq_zero_or_pos (leftO s.co n) with e | e
  · exact e
  · exfalso
    obtain ⟨j, hj, hf⟩ := leftO_pos n e
    obtain ⟨_, N, hN, hsum⟩ := h
    obtain ⟨mi, _, ho⟩ := hN j hj
    have := le_sumTo (f := N) hj
    have hz : N j = 0 := by omega
    rw [hz] at ho
    cases hc : s.co j with
    | fin => rw [hc] at hf; cases hf
    | step a b => rw [hc] at ho; cases ho
theorem game_rounds : ∀ (f : Nat) {s : GSt M}, GameI R G Fin Inv n mo s → mo ≤ s.ord.length + f → GameI R G Fin Inv n mo (roundsO n mo f s) ∧ leftO (roundsO n mo f s).co n = 0
  | 0, s, h, hm => ⟨h, game_left (s := s) h (by simpa using hm)⟩
  | f + 1, s, h, hm => by
    unfold roundsO
    split
    · rename_i hh
      obtain ⟨j, hj, hf⟩ := leftO_pos n hh.1
      have h1 := foldO_grows (n := n) n 0 s (by omega) hh.2 j (by omega) hj hf
      exact game_rounds f (game_fold hRr hRt hGR hGI h _) (by omega)
    · rename_i hh
      refine ⟨h, ?_⟩
      rcases Nat.eq_zero_or_pos (leftO s.co n) with e | e
      · exact e
      · exact game_left h (by omega)
variable {P : Nat → M → Prop} (hPG : ∀ i j a b, i ≠ j → P j a → G i a b → P j b) {B : Nat} {φ : Nat → Fu M} (hS : ∀ i m, i < n → P i m → Inv m → OkF (R i) (G i) (Fin i) B m (φ i))
include hPG hS
theorem game_start {m0 : M} (h0 : Inv m0) (hP0 : ∀ i, P i m0) : ∀ k, k ≤ n → Inv (startO φ m0 k).1 ∧ (∀ i, k ≤ i → P i (startO φ m0 k).1) ∧ ∀ i, i < k → ∃ mi, R i mi (startO φ m0 k).1 ∧ OkC (R i) (G i) (Fin i) B mi ((startO φ m0 k).2 i)
  | 0, _ => ⟨h0, fun i _ => hP0 i, fun i hi => by omega⟩
  | k + 1, hk => by
    obtain ⟨a, b, c⟩ := game_start h0 hP0 k (by omega)
    have hf := hS k _ (by omega) (b k (Nat.le_refl _)) a
    unfold startO
    refine ⟨hGI _ _ _ hf.1, fun i hi => hPG k i _ _ (by omega) (b i (by omega)) hf.1, fun i hi => ?_⟩
    by_cases e : i = k
    · subst e
      simp only [upd_same]
      exact ⟨_, hRr _ _ (hGI _ _ _ hf.1), hf.2⟩
    · obtain ⟨mi, hr, ho⟩ := c i (by omega)
      simp only [upd_ne _ _ e]
      exact ⟨mi, hRt _ _ _ _ hr (hGR _ _ _ _ (fun z => e z.symm) hf.1), ho⟩
/-- ████ THE GAME IS OVER IN TIME. ████ -/
theorem game_over {m0 : M} (h0 : Inv m0) (hP0 : ∀ i, P i m0) (hmo : n * B ≤ mo) (sched : List Int) :
    Inv (playO n mo φ m0 sched).m ∧ leftO (playO n mo φ m0 sched).co n = 0 ∧ ∀ i, i < n → Fin i (playO n mo φ m0 sched).m := by
  obtain ⟨a, _, c⟩ := game_start hRr hRt hGR hGI hPG hS h0 hP0 n (Nat.le_refl _)
  have hsum : sumTo n (fun _ => B) ≤ B * n := Go.ConcN.sumTo_le fun _ _ => Nat.le_refl _
  have h1 : GameI R G Fin Inv n mo ⟨(startO φ m0 n).1, (startO φ m0 n).2, []⟩ := ⟨a, fun _ => B, c, by
    rw [Nat.mul_comm] at hsum
    simp only [List.length_nil]
    omega⟩
  have h2 := game_rounds hRr hRt hGR hGI mo (game_fold hRr hRt hGR hGI h1 sched) (by omega)
  refine ⟨h2.1.1, h2.2, fun i hi => ?_⟩
  obtain ⟨_, N, hN, _⟩ := h2.1
  obtain ⟨mi, hr, ho⟩ := hN i hi
  have hz : (playO n mo φ m0 sched).co i = .fin := by
    have hl := h2.2
    cases hc : (playO n mo φ m0 sched).co i with
    | fin => rfl
    | step x y =>
      exfalso
      have : ∀ k, i < k → leftO (playO n mo φ m0 sched).co k ≠ 0 := fun k => by
        induction k with
        | zero => omega
        | succ k ih =>
          intro hik
          unfold leftO
          by_cases e : i = k
          · subst e; rw [hc]; simp [Co.isFin]
          · have := ih (by omega); omega
      exact this n hi hl
  have ho' : OkC (R i) (G i) (Fin i) (N i) mi ((playO n mo φ m0 sched).co i) := ho
  rw [hz] at ho'
  generalize N i = Ni at ho'
  cases ho' with
  | fin h => exact h _ hr
end
end Go.Proofs.Ytimkkeomdkbcjaa

/-
  firsts (f19), alone. No condition of its own.
-/
namespace Go.Proofs.Ytimkkeomdkbcjaa
open Go.Conc Go.RowKit
set_option linter.unusedVariables false
set_option linter.unusedSimpArgs false

/-- A slice of bytes. -/
def U8In (w : World) (ao : Option Addr) (len : Nat) (zs : List Int) : Prop :=
  zs.length = len ∧ (∀ z ∈ zs, 0 ≤ z ∧ z ≤ 255) ∧ (len = 0 ∨ ∃ g o, ao = some ⟨g, o, none⟩ ∧ ∀ i, i < len → w.cell? ⟨g, o + i, none⟩ = some (.int .u8 (zs.getD i 0)))
/-- The words so far. -/
def firstsJ (zs : List Int) (j : Nat) : List Int := if j = 0 then [0] else (zs.take j).map (· % 4)
def firstsL (zs : List Int) : List Int := firstsJ zs (min zs.length 4)
theorem firstsJ_succ (zs : List Int) {j : Nat} (hj : j < zs.length) : firstsJ zs (j + 1) = (if j = 0 then [] else firstsJ zs j) ++ [zs.getD j 0 % 4] := by
  unfold firstsJ
  rw [if_neg (by omega), List.take_succ_eq_append_getElem hj]
  by_cases h : j = 0
  · subst h; simp [List.getD_eq_getElem?_getD, hj]
  · simp only [if_neg h, List.map_append, List.map_cons, List.map_nil, List.getD_eq_getElem?_getD, List.getElem?_eq_getElem hj, Option.getD_some]
theorem firstsJ_len (zs : List Int) {j : Nat} (hj : j ≤ zs.length) : (firstsJ zs j).length = max j 1 := by
  unfold firstsJ
  by_cases h : j = 0
  · subst h; rfl
  · rw [if_neg h]; simp; omega
def DoneFirsts (zs : List Int) (w : World) (e : Ending) (w' : World) : Prop :=
  ∃ v, e = .returned v ∧ w'.ownsRow w.heap.size 2 1 v (firstsL zs).length (intsL (firstsL zs)) ∧ Below w.heap.size w w'
set_option maxRecDepth 100000 in
set_option maxHeartbeats 1000000 in
theorem firsts_walk {ao : Option Addr} {len cap : Nat} {zs : List Int} {w : World} (hB : U8In w ao len zs) (hcap : len ≤ cap) (hlen : len ≤ 1000000000) : Calls Try.prog 19 #[.slice ao len cap] w (DoneFirsts zs w) := by
  obtain ⟨i1, hi1, hz1, hz11, hz12⟩ := info_parts info2
  obtain ⟨hzl, hzb, hzc⟩ := hB
  obtain ⟨K, hK⟩ : ∃ K, K = min len 4 := ⟨_, rfl⟩
  have hKm : min (len : Int) 4 = (K : Int) := by omega
  have hKc : (K : Int) ≤ (cap : Int) := by omega
  have hKl : K ≤ len := by omega
  have hK4 : K ≤ 4 := by omega
  have hF : firstsL zs = firstsJ zs K := by unfold firstsL; rw [hzl, hK]
  have hlit : (w.alloc (.cells #[.int .i64 0] 2)).ownsRow w.heap.size 2 1 (.slice (some ⟨w.heap.size, 0, none⟩) 1 1) 1 [.int .i64 0] := by
    have := World.ownsRow_lit (base := w.heap.size) (e := 2) (size := 1) w #[.int .i64 0] 1 (by simp) (by decide) rfl
    simpa using this
  replace hlit := Lib.hid hlit
  replace hF := Lib.hid hF
  replace hKm := Lib.hid hKm
  replace hzc := Lib.hid hzc
  replace hzb := Lib.hid hzb
  replace hzl := Lib.hid hzl
  clear hK
  generalize hN : w.heap.size = N at *
  replace hN := Lib.hid hN
  go_enter Try.func19, Try.ntmps19
  go_wp2_with (refine wpL_min rfl _ _ _ _ rfl len 4 K rfl rfl hKm.out ?_)
  rw [hN.out]
  go_loopw [3, 13] (fun va iv wr => ∃ (j : Nat), j ≤ K ∧ iv = .int .i64 j ∧ Hid (wr.ownsRow N 2 1 va (firstsJ zs j).length (intsL (firstsJ zs j))) ∧ Hid (Below N w wr)) (fun _ iv _ => K - (intOf iv).toNat)
  case atStart => exact ⟨0, by omega, rfl, hlit, Lib.hid ((Below.refl _ _).alloc (Nat.le_of_eq hN.out.symm) _)⟩
  case round =>
    obtain ⟨j, hj, rfl, HS, HB⟩ := hrel
    obtain ⟨vp, vc, rfl⟩ := slice_of HS.out
    have hsz := Lib.hid (hN.out ▸ HB.out.size)
    by_cases hlt : j < K
    · have hlt' : (j : Int) < (K : Int) := by omega
      obtain ⟨g, o, rfl, hcell⟩ : ∃ g o, ao = some ⟨g, o, none⟩ ∧ w.cell? ⟨g, o + j, none⟩ = some (.int .u8 (zs.getD j 0)) := by
        rcases hzc.out with h | ⟨g, o, h1, h2⟩
        · omega
        · exact ⟨g, o, h1, h2 j (by omega)⟩
      have hcz : wr.cell? ⟨g, o + j, none⟩ = some (.int .u8 (zs.getD j 0)) := by
        have hb := World.block_lt_of_cell? w _ hcell
        simp only at hb
        rw [hN.out] at hb
        exact (World.cell?_of_block (w := w) (HB.out.block _ hb)).trans hcell
      clear hcell
      have hjz : j < zs.length := by rw [hzl.out]; omega
      have hzj : 0 ≤ zs.getD j 0 ∧ zs.getD j 0 ≤ 255 := by
        rw [List.getD_eq_getElem?_getD, List.getElem?_eq_getElem hjz, Option.getD_some]
        exact hzb.out _ (List.getElem_mem _)
      have hnx := Lib.hid (firstsJ_succ zs hjz)
      have hjl := Lib.hid (firstsJ_len zs (Nat.le_of_lt hjz))
      have hjl2 : (firstsJ zs j).length ≤ 4 := by rw [hjl.out]; omega
      generalize zs.getD j 0 = x at *
      obtain ⟨hx0, hx1⟩ := hzj
      have HSx := Lib.hid (src_one2 wr (.int .i64 (x % 4)) 2 rfl)
      have e1 : IntKind.i64.wrap ((j : Int) + 1) = ((j + 1 : Nat) : Int) := by rw [IntKind.wrap_i64]; omega
      by_cases h0 : j = 0
      · subst h0
        rw [Nat.add_zero] at hcz
        have HO1 := Lib.hid ((World.ownsRow_nil wr N 2 1).alloc (.cells #[.int .i64 (x % 4)] 2))
        go_wp2_with (first
          | (at_builtin; (refine wpList_append_row rfl (.tmp 20) (.tmp 24) 28 rfl N 2 i1 _ _ Try.underlying28 hi1 hz1 hz11 hz12 rfl (.slice none 0 0) 0 _ rfl HO1.out 1 _ HSx.out ?l2 ?b2 ?n2 ?_); (case l2 => (unfold maxLen; omega)); (case b2 => omega); (case n2 => (have h1 := hsz.out; simp; omega)); intro v' w1 ha; obtain ⟨ho, hg, hsh⟩ := ha; have HH := Lib.hid ho; have HB2 := Lib.hid (grown_below HO1.out (HB.out.alloc hsz.out _) (by have h1 := hsz.out; simp; omega) hg); clear ho hg hsh))
        refine ⟨⟨1, by omega, rfl, ?_, HB2⟩, by simp [intOf]; omega⟩
        rw [hnx.out, if_pos rfl]
        exact HH
      · have h0' : ¬ (j : Int) = 0 := by omega
        have HO1 := Lib.hid (HS.out.alloc (.cells #[.int .i64 (x % 4)] 2))
        generalize hfl : (firstsJ zs j).length = fl at *
        go_wp2_with (first
          | (at_builtin; (refine wpList_append_row rfl (.tmp 20) (.tmp 24) 28 rfl N 2 i1 _ _ Try.underlying28 hi1 hz1 hz11 hz12 rfl (.slice vp fl vc) fl _ rfl HO1.out 1 _ HSx.out ?l2 ?b2 ?n2 ?_); (case l2 => (unfold maxLen; omega)); (case b2 => omega); (case n2 => (have h1 := hsz.out; simp; omega)); intro v' w1 ha; obtain ⟨ho, hg, hsh⟩ := ha; have HH := Lib.hid ho; have HB2 := Lib.hid (grown_below HO1.out (HB.out.alloc hsz.out _) (by have h1 := hsz.out; simp; omega) hg); clear ho hg hsh))
        refine ⟨⟨j + 1, by omega, by rw [Int.natCast_add]; rfl, ?_, HB2⟩, by simp [intOf]; omega⟩
        rw [hnx.out, if_neg h0, intsL_snoc]
        have := HH.out
        rw [List.length_append, hfl]
        exact Lib.hid this
    · have hlt' : ¬ (j : Int) < (K : Int) := by omega
      obtain rfl : j = K := by omega
      go_wp2_with fail
      go_ret
      unfold DoneFirsts
      rw [hN.out, hF.out]
      exact ⟨_, rfl, HS.out, HB.out⟩
end Go.Proofs.Ytimkkeomdkbcjaa
