/-
  Merged out of: Gate36 Gate37 Gate38 Gate39. No condition of its own.
-/
import Derived.Test.YtofacoojpgkbiaaNoneP33
set_option linter.unusedVariables false
set_option linter.unusedSimpArgs false
/-
  GateNone: the nil gate is called, and what the law wants of it is laid (regions 17 to 28). No condition of its own.
-/
namespace Go.Proofs.Ytofacoojpgkbiaa
open Go.Conc Go.RowKit
open Go.ConcN (upd upd_ne upd_same)
set_option maxRecDepth 100000
noncomputable def b4 : Code := cA (cB (cB rest17))
theorem nilR_14 {o : OpD} (h1 : 1 ≤ o.kind) (h4 : o.kind ≤ 4) : nilR o = toldC 0 (refF none o.a) := by
  unfold nilR
  by_cases k1 : o.kind = 1
  · rw [if_pos k1]
  · rw [if_neg k1]
    by_cases k2 : o.kind = 2
    · rw [if_pos k2]
    · rw [if_neg k2]
      by_cases k3 : o.kind = 3
      · rw [if_pos k3]
      · rw [if_neg k3, if_pos (by omega)]
theorem nilR_out {o : OpD} (h1 : 1 ≤ o.kind) (h4 : o.kind ≤ 4) (ha : o.a < 0 ∨ 64 ≤ o.a) : nilR o = ⟨false, 1, []⟩ := by
  rw [nilR_14 h1 h4]
  have : refF none o.a = 1 := by unfold refF; rw [if_pos ha]
  rw [this]; rfl
theorem nilR_in {o : OpD} (h1 : 1 ≤ o.kind) (h4 : o.kind ≤ 4) (ha : ¬ (o.a < 0 ∨ 64 ≤ o.a)) : nilR o = ⟨false, 6, []⟩ := by
  rw [nilR_14 h1 h4]
  have : refF none o.a = 6 := by unfold refF; rw [if_neg ha]; exact if_pos rfl
  rw [this]; rfl
theorem nilR_5 {o : OpD} (h : o.kind = 5) : nilR o = ⟨true, 0, []⟩ := by unfold nilR; rw [if_neg (by omega), if_neg (by omega), if_neg (by omega), if_neg (by omega), if_pos h]
theorem nilR_6 {o : OpD} (h : o.kind = 6) : nilR o = ⟨true, o.a, [-1]⟩ := by unfold nilR; rw [if_neg (by omega), if_neg (by omega), if_neg (by omega), if_neg (by omega), if_neg (by omega), if_pos h]
theorem nilR_7 {o : OpD} (h : o.kind = 7) : nilR o = ⟨true, -1, []⟩ := by unfold nilR; rw [if_neg (by omega), if_neg (by omega), if_neg (by omega), if_neg (by omega), if_neg (by omega), if_neg (by omega), if_pos h]
theorem nilR_no {o : OpD} (h : o.kind < 1 ∨ 7 < o.kind) : nilR o = ⟨false, 0, []⟩ := by unfold nilR; rw [if_neg (by omega), if_neg (by omega), if_neg (by omega), if_neg (by omega), if_neg (by omega), if_neg (by omega), if_neg (by omega)]
section
variable {Z : Machine → Trace → Prop} {c : Frame} {cs : List Frame} {w0 w : World} {gz gw N K : Nat} {s : GateS} {o : OpD} {z : Nat → Value} {oz ow : Nat → Owner} {R : List Item}
def Want4 (K : Nat) (o : OpD) (w w' : World) : Prop := (∀ b, b < w.heap.size → b ≠ K → w'.heap[b]? = w.heap[b]?) ∧ w.heap.size ≤ w'.heap.size ∧ (w'.os = w.os ∧ w'.output = w.output) ∧ ∃ u, w'.heap[K]? = some (.cells #[.bool (nilR o).ok, .int .i64 (nilR o).n, u] 42 (0, 0)) ∧ IntsAt w' u (nilR o).l
theorem Want4.sim {w w1 w2 : World} (h : Want4 K o w w1) (h2 : Sim w2 w1) : Want4 K o w w2 := by
  obtain ⟨a, b, c, u, d, e⟩ := h
  have hh := h2.heap
  refine ⟨fun x hx hK => (congrArg (·[x]?) hh).trans (a x hx hK), by rw [hh]; exact b, ⟨h2.outs.1.trans c.1, h2.outs.2.trans c.2⟩, u, (congrArg (·[K]?) hh).trans d, e.mono fun x _ => by rw [hh]⟩
theorem intsAt_nil (w : World) : IntsAt w (.slice none 0 0) [] := ⟨none, 0, rfl, fun h => absurd rfl h⟩
theorem want_of {wp w' : World} {u : Value} (hp : Sim wp w) (hs : wp.heap.size ≤ w'.heap.size) (hk : ∀ b, b < wp.heap.size → b ≠ K → w'.heap[b]? = wp.heap[b]?) (ho : w'.os = wp.os ∧ w'.output = wp.output)
    (hK : w'.heap[K]? = some (.cells #[.bool (nilR o).ok, .int .i64 (nilR o).n, u] 42 (0, 0))) (hi : IntsAt w' u (nilR o).l) : Want4 K o w w' :=
  ⟨fun b hb h => (hk b (by rw [hp.heap]; exact hb) h).trans (by rw [hp.heap]), by rw [← hp.heap]; exact hs, ⟨ho.1.trans hp.outs.1, ho.2.trans hp.outs.2⟩, u, hK, hi⟩
theorem want_same {wp : World} (hp : Sim wp w) (hK : w.heap[K]? = some ansO) (hr : nilR o = ⟨false, 0, []⟩) : Want4 K o w wp :=
  want_of (u := .slice none 0 0) hp (Nat.le_refl _) (fun _ _ _ => rfl) ⟨rfl, rfl⟩ (by rw [hr, hp.heap]; exact hK) (by rw [hr]; exact intsAt_nil _)
theorem want_n {wp : World} {v : Int} (hp : Sim wp w) (hK : w.heap[K]? = some ansO) (hr : nilR o = ⟨false, v, []⟩) : Want4 K o w (wp.setCell ⟨K, 1, none⟩ (.int .i64 v)) :=
  want_of (u := .slice none 0 0) hp (by simp [World.setCell]) (fun b _ h => Below.heap_setCell _ _ _ _ h) ⟨rfl, rfl⟩ (by
    have h1 : wp.heap[K]? = some ansO := by rw [hp.heap]; exact hK
    rw [hr]
    exact (storedAt h1 1 _).trans (by simp)) (by rw [hr]; exact intsAt_nil _)
theorem want_t {wp : World} (hp : Sim wp w) (hK : w.heap[K]? = some ansO) (hr : nilR o = ⟨true, 0, []⟩) : Want4 K o w (wp.setCell ⟨K, 0, none⟩ (.bool true)) :=
  want_of (u := .slice none 0 0) hp (by simp [World.setCell]) (fun b _ h => Below.heap_setCell _ _ _ _ h) ⟨rfl, rfl⟩ (by
    have h1 : wp.heap[K]? = some ansO := by rw [hp.heap]; exact hK
    rw [hr]
    exact (storedAt h1 0 _).trans (by simp)) (by rw [hr]; exact intsAt_nil _)
theorem want_3 {wp : World} {r : Ans} (hp : Sim wp w) (hK : w.heap[K]? = some ansO) (hr : nilR o = r) (hl : r.l = []) : Want4 K o w (put3 wp K r (.slice none 0 0)) :=
  want_of (u := .slice none 0 0) hp (by rw [put3_size]; exact Nat.le_refl _) (fun b _ h => put3_off h _ _) ⟨rfl, rfl⟩ (by
    have h1 : wp.heap[K]? = some ansO := by rw [hp.heap]; exact hK
    rw [hr]
    exact putA_at h1 rfl _ _) (by rw [hr, hl]; exact intsAt_nil _)
theorem want_6 {wp : World} {M : Nat} {r : Ans} (hp : Sim wp w) (hM : wp.heap.size = M) (hK : w.heap[K]? = some ansO) (hr : nilR o = r) (hl : r.l = [-1]) : Want4 K o w (put3 (wp.alloc (.cells #[.int .i64 (-1)] 2)) K r (.slice (some ⟨M, 0, none⟩) 1 1)) := by
  have h1 : wp.heap[K]? = some ansO := by rw [hp.heap]; exact hK
  have hlt := (Array.getElem?_eq_some_iff.1 h1).1
  have hne : M ≠ K := by omega
  refine want_of (u := .slice (some ⟨M, 0, none⟩) 1 1) hp (by rw [put3_size]; simp) (fun b hb h => (put3_off h _ _).trans (Below.heap_alloc _ _ _ hb)) ⟨rfl, rfl⟩ ?_ ?_
  · rw [hr]
    exact putA_at ((Below.heap_alloc _ _ _ hlt).trans h1) rfl _ _
  · rw [hr, hl]
    refine ⟨_, _, rfl, fun _ => ⟨M, 0, rfl, fun j x hj => ?_⟩⟩
    rcases j with _ | j
    · obtain rfl : -1 = x := by simpa using hj
      have h2 : (put3 (wp.alloc (.cells #[.int .i64 (-1)] 2)) K r (.slice (some ⟨M, 0, none⟩) 1 1)).heap[M]? = some (.cells #[.int .i64 (-1)] 2 (0, 0)) := (put3_off hne _ _).trans (by rw [← hM]; exact heap_alloc_new _ _)
      exact cellAt h2 0
    · simp at hj
set_option maxHeartbeats 4000000 in
theorem w4_lo (z8 : z 8 = .pointer (some ⟨N, 0, none⟩)) (z12 : z 12 = .pointer (some ⟨K, 0, none⟩)) (hN : w.heap[N]? = some (opO o)) (hK : w.heap[K]? = some ansO) (h1 : o.kind < 1)
    (hret : ∀ x w', (∀ j, j < 13 → x j = z j) → Want4 K o w w' → RM Try.prog Z (G ((base 5).at (A5 x) R) cs) w') :
    RM Try.prog Z (G ((base 5).at (A5 z) (.code b4 :: R)) cs) w := by
  have hx : Hid (∀ x : Nat → Value, (∀ j, j < 13 → x j = z j) → ∀ w', Want4 K o w w' → RM Try.prog Z (G ((base 5).at (A5 x) R) cs) w') := Lib.hid fun x hx w' h => hret x w' hx h
  clear hret
  obtain ⟨ok, oa, ob, oc⟩ := o
  simp only at *
  have d1 : decide (1 ≤ ok) = false := decide_eq_false (by omega)
  have d5 : (ok == 5) = false := by simp; omega
  have d6 : (ok == 6) = false := by simp; omega
  have d7 : (ok == 7) = false := by simp; omega
  have hr : nilR ⟨ok, oa, ob, oc⟩ = ⟨false, 0, []⟩ := nilR_no (.inl h1)
  replace h1 := Lib.hid h1
  replace hr := Lib.hid hr
  unfold opO at hN
  unfold ansO at hK
  simp only at hN
  rw [show b4 = Code.block _ _ from rfl]
  refine rm_seg prgN (calmCode_of ext_ok (by kernel_rfl)) rfl (calmRes_of Try.func5) rfl fun wp hp => ?_
  have gn := (congrArg (·[N]?) hp.heap).trans hN
  have gk := (congrArg (·[K]?) hp.heap).trans hK
  have a0 := cellAt gn 0
  have a1 := cellAt gn 1
  have k0 := cellAt gk 0
  have k1 := cellAt gk 1
  have k2 := cellAt gk 2
  have f0 := freeAt gk 0
  have f1 := freeAt gk 1
  have f2 := freeAt gk 2
  simp only [List.getElem?_toArray, List.getElem?_cons_zero, List.getElem?_cons_succ] at a0 a1 k0 k1 k2
  replace gn := Lib.hid gn
  replace gk := Lib.hid gk
  replace hp := Lib.hid hp
  unfold A5
  simp only [z8, z12]
  go_wp2_with fail
  refine fun w1 h1 => ?_
  rw [a5_of _ rfl]
  refine hx.out _ ?_ _ ?_
  · intro j hj
    rcases j with _ | _ | _ | _ | _ | _ | _ | _ | _ | _ | _ | _ | _ | j <;> first | rfl | exact z8.symm | exact z12.symm | omega
  · refine Want4.sim ?_ h1
    exact want_same hp.out hK hr.out
set_option maxHeartbeats 4000000 in
theorem w4_hi (z8 : z 8 = .pointer (some ⟨N, 0, none⟩)) (z12 : z 12 = .pointer (some ⟨K, 0, none⟩)) (hN : w.heap[N]? = some (opO o)) (hK : w.heap[K]? = some ansO) (h1 : 7 < o.kind)
    (hret : ∀ x w', (∀ j, j < 13 → x j = z j) → Want4 K o w w' → RM Try.prog Z (G ((base 5).at (A5 x) R) cs) w') :
    RM Try.prog Z (G ((base 5).at (A5 z) (.code b4 :: R)) cs) w := by
  have hx : Hid (∀ x : Nat → Value, (∀ j, j < 13 → x j = z j) → ∀ w', Want4 K o w w' → RM Try.prog Z (G ((base 5).at (A5 x) R) cs) w') := Lib.hid fun x hx w' h => hret x w' hx h
  clear hret
  obtain ⟨ok, oa, ob, oc⟩ := o
  simp only at *
  have d1 : decide (1 ≤ ok) = true := decide_eq_true (by omega)
  have d4 : decide (ok ≤ 4) = false := decide_eq_false (by omega)
  have d5 : (ok == 5) = false := by simp; omega
  have d6 : (ok == 6) = false := by simp; omega
  have d7 : (ok == 7) = false := by simp; omega
  have hr : nilR ⟨ok, oa, ob, oc⟩ = ⟨false, 0, []⟩ := nilR_no (.inr h1)
  replace h1 := Lib.hid h1
  replace hr := Lib.hid hr
  unfold opO at hN
  unfold ansO at hK
  simp only at hN
  rw [show b4 = Code.block _ _ from rfl]
  refine rm_seg prgN (calmCode_of ext_ok (by kernel_rfl)) rfl (calmRes_of Try.func5) rfl fun wp hp => ?_
  have gn := (congrArg (·[N]?) hp.heap).trans hN
  have gk := (congrArg (·[K]?) hp.heap).trans hK
  have a0 := cellAt gn 0
  have a1 := cellAt gn 1
  have k0 := cellAt gk 0
  have k1 := cellAt gk 1
  have k2 := cellAt gk 2
  have f0 := freeAt gk 0
  have f1 := freeAt gk 1
  have f2 := freeAt gk 2
  simp only [List.getElem?_toArray, List.getElem?_cons_zero, List.getElem?_cons_succ] at a0 a1 k0 k1 k2
  replace gn := Lib.hid gn
  replace gk := Lib.hid gk
  replace hp := Lib.hid hp
  unfold A5
  simp only [z8, z12]
  go_wp2_with fail
  refine fun w1 h1 => ?_
  rw [a5_of _ rfl]
  refine hx.out _ ?_ _ ?_
  · intro j hj
    rcases j with _ | _ | _ | _ | _ | _ | _ | _ | _ | _ | _ | _ | _ | j <;> first | rfl | exact z8.symm | exact z12.symm | omega
  · refine Want4.sim ?_ h1
    exact want_same hp.out hK hr.out
set_option maxHeartbeats 4000000 in
theorem w4_neg (z8 : z 8 = .pointer (some ⟨N, 0, none⟩)) (z12 : z 12 = .pointer (some ⟨K, 0, none⟩)) (hN : w.heap[N]? = some (opO o)) (hK : w.heap[K]? = some ansO) (h1 : 1 ≤ o.kind) (h2 : o.kind ≤ 4) (h3 : o.a < 0)
    (hret : ∀ x w', (∀ j, j < 13 → x j = z j) → Want4 K o w w' → RM Try.prog Z (G ((base 5).at (A5 x) R) cs) w') :
    RM Try.prog Z (G ((base 5).at (A5 z) (.code b4 :: R)) cs) w := by
  have hx : Hid (∀ x : Nat → Value, (∀ j, j < 13 → x j = z j) → ∀ w', Want4 K o w w' → RM Try.prog Z (G ((base 5).at (A5 x) R) cs) w') := Lib.hid fun x hx w' h => hret x w' hx h
  clear hret
  obtain ⟨ok, oa, ob, oc⟩ := o
  simp only at *
  have d1 : decide (1 ≤ ok) = true := decide_eq_true h1
  have d4 : decide (ok ≤ 4) = true := decide_eq_true h2
  have d8 : decide (oa < 0) = true := decide_eq_true h3
  have hr : nilR ⟨ok, oa, ob, oc⟩ = ⟨false, 1, []⟩ := nilR_out h1 h2 (.inl h3)
  replace h1 := Lib.hid h1
  replace h2 := Lib.hid h2
  replace h3 := Lib.hid h3
  replace hr := Lib.hid hr
  unfold opO at hN
  unfold ansO at hK
  simp only at hN
  rw [show b4 = Code.block _ _ from rfl]
  refine rm_seg prgN (calmCode_of ext_ok (by kernel_rfl)) rfl (calmRes_of Try.func5) rfl fun wp hp => ?_
  have gn := (congrArg (·[N]?) hp.heap).trans hN
  have gk := (congrArg (·[K]?) hp.heap).trans hK
  have a0 := cellAt gn 0
  have a1 := cellAt gn 1
  have k0 := cellAt gk 0
  have k1 := cellAt gk 1
  have k2 := cellAt gk 2
  have f0 := freeAt gk 0
  have f1 := freeAt gk 1
  have f2 := freeAt gk 2
  simp only [List.getElem?_toArray, List.getElem?_cons_zero, List.getElem?_cons_succ] at a0 a1 k0 k1 k2
  replace gn := Lib.hid gn
  replace gk := Lib.hid gk
  replace hp := Lib.hid hp
  unfold A5
  simp only [z8, z12]
  go_wp2_with fail
  refine fun w1 h1 => ?_
  rw [a5_of _ rfl]
  refine hx.out _ ?_ _ ?_
  · intro j hj
    rcases j with _ | _ | _ | _ | _ | _ | _ | _ | _ | _ | _ | _ | _ | j <;> first | rfl | exact z8.symm | exact z12.symm | omega
  · refine Want4.sim ?_ h1
    exact want_n hp.out hK hr.out
set_option maxHeartbeats 4000000 in
theorem w4_far (z8 : z 8 = .pointer (some ⟨N, 0, none⟩)) (z12 : z 12 = .pointer (some ⟨K, 0, none⟩)) (hN : w.heap[N]? = some (opO o)) (hK : w.heap[K]? = some ansO) (h1 : 1 ≤ o.kind) (h2 : o.kind ≤ 4) (h3 : ¬ o.a < 0) (h4 : 64 ≤ o.a)
    (hret : ∀ x w', (∀ j, j < 13 → x j = z j) → Want4 K o w w' → RM Try.prog Z (G ((base 5).at (A5 x) R) cs) w') :
    RM Try.prog Z (G ((base 5).at (A5 z) (.code b4 :: R)) cs) w := by
  have hx : Hid (∀ x : Nat → Value, (∀ j, j < 13 → x j = z j) → ∀ w', Want4 K o w w' → RM Try.prog Z (G ((base 5).at (A5 x) R) cs) w') := Lib.hid fun x hx w' h => hret x w' hx h
  clear hret
  obtain ⟨ok, oa, ob, oc⟩ := o
  simp only at *
  have d1 : decide (1 ≤ ok) = true := decide_eq_true h1
  have d4 : decide (ok ≤ 4) = true := decide_eq_true h2
  have d8 : decide (oa < 0) = false := decide_eq_false h3
  have d9 : decide (64 ≤ oa) = true := decide_eq_true h4
  have hr : nilR ⟨ok, oa, ob, oc⟩ = ⟨false, 1, []⟩ := nilR_out h1 h2 (.inr h4)
  replace h1 := Lib.hid h1
  replace h2 := Lib.hid h2
  replace h3 := Lib.hid h3
  replace h4 := Lib.hid h4
  replace hr := Lib.hid hr
  unfold opO at hN
  unfold ansO at hK
  simp only at hN
  rw [show b4 = Code.block _ _ from rfl]
  refine rm_seg prgN (calmCode_of ext_ok (by kernel_rfl)) rfl (calmRes_of Try.func5) rfl fun wp hp => ?_
  have gn := (congrArg (·[N]?) hp.heap).trans hN
  have gk := (congrArg (·[K]?) hp.heap).trans hK
  have a0 := cellAt gn 0
  have a1 := cellAt gn 1
  have k0 := cellAt gk 0
  have k1 := cellAt gk 1
  have k2 := cellAt gk 2
  have f0 := freeAt gk 0
  have f1 := freeAt gk 1
  have f2 := freeAt gk 2
  simp only [List.getElem?_toArray, List.getElem?_cons_zero, List.getElem?_cons_succ] at a0 a1 k0 k1 k2
  replace gn := Lib.hid gn
  replace gk := Lib.hid gk
  replace hp := Lib.hid hp
  unfold A5
  simp only [z8, z12]
  go_wp2_with fail
  refine fun w1 h1 => ?_
  rw [a5_of _ rfl]
  refine hx.out _ ?_ _ ?_
  · intro j hj
    rcases j with _ | _ | _ | _ | _ | _ | _ | _ | _ | _ | _ | _ | _ | j <;> first | rfl | exact z8.symm | exact z12.symm | omega
  · refine Want4.sim ?_ h1
    exact want_n hp.out hK hr.out
set_option maxHeartbeats 4000000 in
theorem w4_in (z8 : z 8 = .pointer (some ⟨N, 0, none⟩)) (z12 : z 12 = .pointer (some ⟨K, 0, none⟩)) (hN : w.heap[N]? = some (opO o)) (hK : w.heap[K]? = some ansO) (h1 : 1 ≤ o.kind) (h2 : o.kind ≤ 4) (h3 : ¬ o.a < 0) (h4 : ¬ 64 ≤ o.a)
    (hret : ∀ x w', (∀ j, j < 13 → x j = z j) → Want4 K o w w' → RM Try.prog Z (G ((base 5).at (A5 x) R) cs) w') :
    RM Try.prog Z (G ((base 5).at (A5 z) (.code b4 :: R)) cs) w := by
  have hx : Hid (∀ x : Nat → Value, (∀ j, j < 13 → x j = z j) → ∀ w', Want4 K o w w' → RM Try.prog Z (G ((base 5).at (A5 x) R) cs) w') := Lib.hid fun x hx w' h => hret x w' hx h
  clear hret
  obtain ⟨ok, oa, ob, oc⟩ := o
  simp only at *
  have d1 : decide (1 ≤ ok) = true := decide_eq_true h1
  have d4 : decide (ok ≤ 4) = true := decide_eq_true h2
  have d8 : decide (oa < 0) = false := decide_eq_false h3
  have d9 : decide (64 ≤ oa) = false := decide_eq_false h4
  have hr : nilR ⟨ok, oa, ob, oc⟩ = ⟨false, 6, []⟩ := nilR_in h1 h2 (by show ¬ (oa < 0 ∨ 64 ≤ oa); omega)
  replace h1 := Lib.hid h1
  replace h2 := Lib.hid h2
  replace h3 := Lib.hid h3
  replace h4 := Lib.hid h4
  replace hr := Lib.hid hr
  unfold opO at hN
  unfold ansO at hK
  simp only at hN
  rw [show b4 = Code.block _ _ from rfl]
  refine rm_seg prgN (calmCode_of ext_ok (by kernel_rfl)) rfl (calmRes_of Try.func5) rfl fun wp hp => ?_
  have gn := (congrArg (·[N]?) hp.heap).trans hN
  have gk := (congrArg (·[K]?) hp.heap).trans hK
  have a0 := cellAt gn 0
  have a1 := cellAt gn 1
  have k0 := cellAt gk 0
  have k1 := cellAt gk 1
  have k2 := cellAt gk 2
  have f0 := freeAt gk 0
  have f1 := freeAt gk 1
  have f2 := freeAt gk 2
  simp only [List.getElem?_toArray, List.getElem?_cons_zero, List.getElem?_cons_succ] at a0 a1 k0 k1 k2
  replace gn := Lib.hid gn
  replace gk := Lib.hid gk
  replace hp := Lib.hid hp
  unfold A5
  simp only [z8, z12]
  go_wp2_with fail
  refine fun w1 h1 => ?_
  rw [a5_of _ rfl]
  refine hx.out _ ?_ _ ?_
  · intro j hj
    rcases j with _ | _ | _ | _ | _ | _ | _ | _ | _ | _ | _ | _ | _ | j <;> first | rfl | exact z8.symm | exact z12.symm | omega
  · refine Want4.sim ?_ h1
    exact want_n hp.out hK hr.out
set_option maxHeartbeats 4000000 in
theorem w4_5 (z8 : z 8 = .pointer (some ⟨N, 0, none⟩)) (z12 : z 12 = .pointer (some ⟨K, 0, none⟩)) (hN : w.heap[N]? = some (opO o)) (hK : w.heap[K]? = some ansO) (h1 : o.kind = 5)
    (hret : ∀ x w', (∀ j, j < 13 → x j = z j) → Want4 K o w w' → RM Try.prog Z (G ((base 5).at (A5 x) R) cs) w') :
    RM Try.prog Z (G ((base 5).at (A5 z) (.code b4 :: R)) cs) w := by
  have hx : Hid (∀ x : Nat → Value, (∀ j, j < 13 → x j = z j) → ∀ w', Want4 K o w w' → RM Try.prog Z (G ((base 5).at (A5 x) R) cs) w') := Lib.hid fun x hx w' h => hret x w' hx h
  clear hret
  obtain ⟨ok, oa, ob, oc⟩ := o
  simp only at *
  have hr : nilR ⟨ok, oa, ob, oc⟩ = ⟨true, 0, []⟩ := nilR_5 h1
  obtain rfl : ok = 5 := h1
  replace hr := Lib.hid hr
  unfold opO at hN
  unfold ansO at hK
  simp only at hN
  rw [show b4 = Code.block _ _ from rfl]
  refine rm_seg prgN (calmCode_of ext_ok (by kernel_rfl)) rfl (calmRes_of Try.func5) rfl fun wp hp => ?_
  have gn := (congrArg (·[N]?) hp.heap).trans hN
  have gk := (congrArg (·[K]?) hp.heap).trans hK
  have a0 := cellAt gn 0
  have a1 := cellAt gn 1
  have k0 := cellAt gk 0
  have k1 := cellAt gk 1
  have k2 := cellAt gk 2
  have f0 := freeAt gk 0
  have f1 := freeAt gk 1
  have f2 := freeAt gk 2
  simp only [List.getElem?_toArray, List.getElem?_cons_zero, List.getElem?_cons_succ] at a0 a1 k0 k1 k2
  replace gn := Lib.hid gn
  replace gk := Lib.hid gk
  replace hp := Lib.hid hp
  unfold A5
  simp only [z8, z12]
  go_wp2_with fail
  refine fun w1 h1 => ?_
  rw [a5_of _ rfl]
  refine hx.out _ ?_ _ ?_
  · intro j hj
    rcases j with _ | _ | _ | _ | _ | _ | _ | _ | _ | _ | _ | _ | _ | j <;> first | rfl | exact z8.symm | exact z12.symm | omega
  · refine Want4.sim ?_ h1
    exact want_t hp.out hK hr.out
set_option maxHeartbeats 4000000 in
theorem w4_6 (z8 : z 8 = .pointer (some ⟨N, 0, none⟩)) (z12 : z 12 = .pointer (some ⟨K, 0, none⟩)) (hN : w.heap[N]? = some (opO o)) (hK : w.heap[K]? = some ansO) (h1 : o.kind = 6)
    (hret : ∀ x w', (∀ j, j < 13 → x j = z j) → Want4 K o w w' → RM Try.prog Z (G ((base 5).at (A5 x) R) cs) w') :
    RM Try.prog Z (G ((base 5).at (A5 z) (.code b4 :: R)) cs) w := by
  have hx : Hid (∀ x : Nat → Value, (∀ j, j < 13 → x j = z j) → ∀ w', Want4 K o w w' → RM Try.prog Z (G ((base 5).at (A5 x) R) cs) w') := Lib.hid fun x hx w' h => hret x w' hx h
  clear hret
  obtain ⟨ok, oa, ob, oc⟩ := o
  simp only at *
  have hr : nilR ⟨ok, oa, ob, oc⟩ = ⟨true, oa, [-1]⟩ := nilR_6 h1
  obtain rfl : ok = 6 := h1
  replace hr := Lib.hid hr
  unfold opO at hN
  unfold ansO at hK
  simp only at hN
  rw [show b4 = Code.block _ _ from rfl]
  refine rm_seg prgN (calmCode_of ext_ok (by kernel_rfl)) rfl (calmRes_of Try.func5) rfl fun wp hp => ?_
  have gn := (congrArg (·[N]?) hp.heap).trans hN
  have gk := (congrArg (·[K]?) hp.heap).trans hK
  have a0 := cellAt gn 0
  have a1 := cellAt gn 1
  have k0 := cellAt gk 0
  have k1 := cellAt gk 1
  have k2 := cellAt gk 2
  have f0 := freeAt gk 0
  have f1 := freeAt gk 1
  have f2 := freeAt gk 2
  simp only [List.getElem?_toArray, List.getElem?_cons_zero, List.getElem?_cons_succ] at a0 a1 k0 k1 k2
  replace gn := Lib.hid gn
  replace gk := Lib.hid gk
  replace hp := Lib.hid hp
  unfold A5
  simp only [z8, z12]
  have kl := (Array.getElem?_eq_some_iff.1 gk.out).1
  have ga : (wp.alloc (.cells #[.int .i64 (-1)] 2)).heap[K]? = _ := (Below.heap_alloc _ _ _ kl).trans gk.out
  have e0 := cellAt ga 0
  have e1 := cellAt ga 1
  have e2 := cellAt ga 2
  have j0 := freeAt ga 0
  have j1 := freeAt ga 1
  have j2 := freeAt ga 2
  simp only [List.getElem?_toArray, List.getElem?_cons_zero, List.getElem?_cons_succ] at e0 e1 e2
  replace ga := Lib.hid ga
  replace kl := Lib.hid kl
  go_wp2_with fail
  refine fun w1 h1 => ?_
  rw [a5_of _ rfl]
  refine hx.out _ ?_ _ ?_
  · intro j hj
    rcases j with _ | _ | _ | _ | _ | _ | _ | _ | _ | _ | _ | _ | _ | j <;> first | rfl | exact z8.symm | exact z12.symm | omega
  · refine Want4.sim ?_ h1
    exact want_6 (M := wp.heap.size) (r := ⟨true, oa, [-1]⟩) hp.out rfl hK hr.out rfl
set_option maxHeartbeats 4000000 in
theorem w4_7 (z8 : z 8 = .pointer (some ⟨N, 0, none⟩)) (z12 : z 12 = .pointer (some ⟨K, 0, none⟩)) (hN : w.heap[N]? = some (opO o)) (hK : w.heap[K]? = some ansO) (h1 : o.kind = 7)
    (hret : ∀ x w', (∀ j, j < 13 → x j = z j) → Want4 K o w w' → RM Try.prog Z (G ((base 5).at (A5 x) R) cs) w') :
    RM Try.prog Z (G ((base 5).at (A5 z) (.code b4 :: R)) cs) w := by
  have hx : Hid (∀ x : Nat → Value, (∀ j, j < 13 → x j = z j) → ∀ w', Want4 K o w w' → RM Try.prog Z (G ((base 5).at (A5 x) R) cs) w') := Lib.hid fun x hx w' h => hret x w' hx h
  clear hret
  obtain ⟨ok, oa, ob, oc⟩ := o
  simp only at *
  have hr : nilR ⟨ok, oa, ob, oc⟩ = ⟨true, -1, []⟩ := nilR_7 h1
  obtain rfl : ok = 7 := h1
  replace hr := Lib.hid hr
  unfold opO at hN
  unfold ansO at hK
  simp only at hN
  rw [show b4 = Code.block _ _ from rfl]
  refine rm_seg prgN (calmCode_of ext_ok (by kernel_rfl)) rfl (calmRes_of Try.func5) rfl fun wp hp => ?_
  have gn := (congrArg (·[N]?) hp.heap).trans hN
  have gk := (congrArg (·[K]?) hp.heap).trans hK
  have a0 := cellAt gn 0
  have a1 := cellAt gn 1
  have k0 := cellAt gk 0
  have k1 := cellAt gk 1
  have k2 := cellAt gk 2
  have f0 := freeAt gk 0
  have f1 := freeAt gk 1
  have f2 := freeAt gk 2
  simp only [List.getElem?_toArray, List.getElem?_cons_zero, List.getElem?_cons_succ] at a0 a1 k0 k1 k2
  replace gn := Lib.hid gn
  replace gk := Lib.hid gk
  replace hp := Lib.hid hp
  unfold A5
  simp only [z8, z12]
  go_wp2_with fail
  refine fun w1 h1 => ?_
  rw [a5_of _ rfl]
  refine hx.out _ ?_ _ ?_
  · intro j hj
    rcases j with _ | _ | _ | _ | _ | _ | _ | _ | _ | _ | _ | _ | _ | j <;> first | rfl | exact z8.symm | exact z12.symm | omega
  · refine Want4.sim ?_ h1
    exact want_3 (r := ⟨true, -1, []⟩) hp.out hK hr.out rfl
theorem want_runs (z8 : z 8 = .pointer (some ⟨N, 0, none⟩)) (z12 : z 12 = .pointer (some ⟨K, 0, none⟩)) (hN : w.heap[N]? = some (opO o)) (hK : w.heap[K]? = some ansO)
    (hret : ∀ x w', (∀ j, j < 13 → x j = z j) → Want4 K o w w' → RM Try.prog Z (G ((base 5).at (A5 x) R) cs) w') :
    RM Try.prog Z (G ((base 5).at (A5 z) (.code b4 :: R)) cs) w := by
  by_cases h1 : o.kind < 1
  · exact w4_lo z8 z12 hN hK h1 hret
  by_cases h2 : 7 < o.kind
  · exact w4_hi z8 z12 hN hK h2 hret
  by_cases h5 : o.kind = 5
  · exact w4_5 z8 z12 hN hK h5 hret
  by_cases h6 : o.kind = 6
  · exact w4_6 z8 z12 hN hK h6 hret
  by_cases h7 : o.kind = 7
  · exact w4_7 z8 z12 hN hK h7 hret
  by_cases h8 : o.a < 0
  · exact w4_neg z8 z12 hN hK (by omega) (by omega) h8 hret
  by_cases h9 : 64 ≤ o.a
  · exact w4_far z8 z12 hN hK (by omega) (by omega) h8 h9 hret
  · exact w4_in z8 z12 hN hK (by omega) (by omega) h8 h9 hret
end
end Go.Proofs.Ytofacoojpgkbiaa

/-
  GateNone: the nil gate beside what the law wants of it (regions 17 to 29). No condition of its own.
-/
namespace Go.Proofs.Ytofacoojpgkbiaa
open Go.Conc Go.RowKit
open Go.ConcN (upd upd_ne upd_same)
set_option maxRecDepth 100000
theorem numbersN_walk (w : World) : Calls Try.prog 26 #[.pointer none] w fun e w' => e = .returned (.slice none 0 0) ∧ w' = w := by
  have hne : ∀ w : World, (binOp .neq 35 (.pointer none) (.pointer none)).run Try.prog w = .ok (.bool false) w := fun w => by rfl
  go_enter Try.func26, Try.ntmps26
  go_wp2_with fail
  go_ret
  exact ⟨rfl, rfl⟩
section
variable {Z : Machine → Trace → Prop} {c : Frame} {cs : List Frame} {w0 w w' : World} {gz gw N K : Nat} {s sz sw : GateS} {o : OpD} {z : Nat → Value} {oz ow : Nat → Owner} {R : List Item}
theorem numbersN_runs (h : ∀ w', LeftW w w' → RM Try.prog Z (G (c.finish (.slice none 0 0)) cs) w') : RM Try.prog Z (G (Frame.enter Try.prog 26 #[.pointer none] .normal) (c :: cs)) w :=
  rm_enter prgS (f := 26) (by simp) (R := fun v w' => v = .slice none 0 0 ∧ LeftW w w') (fun v w' τ d hx => ⟨hx.1, leftW_re τ d hx.2⟩)
    (fun τ d => (numbersN_walk (re τ d w)).mono fun e w' ⟨he, hb⟩ => ⟨_, he, rfl, by rw [hb]; exact leftW_re τ d .refl⟩)
    fun v w' ⟨e, L⟩ => by subst e; exact h w' L
theorem NS.want (I : NS w0 gz gw sz sw oz ow w) (hK : oz K = .out) (hK' : ow K = .out) (hlo : w0.heap.size ≤ K) (h : Want4 K o w w') : NS w0 gz gw sz sw oz ow w' := by
  obtain ⟨k1, k2, k3, _⟩ := h
  refine ⟨I.z.keep k2 fun b hb h0 => k1 b hb fun q => h0 (q ▸ hK), I.wt.keep k2 fun b hb h0 => k1 b hb fun q => h0 (q ▸ hK'), I.dis, I.l.trans' k2 k3 fun b hb => k1 b ?_ ?_, I.oz0, I.ow0⟩
  · have := I.l.size; omega
  · omega
theorem intsAt_own {w : World} {v : Value} {l : List Int} (h : w.ownsRow 0 2 1 v l.length (intsV l)) : IntsAt w v l := intsAt_row h
set_option maxHeartbeats 4000000 in
theorem rest17_runs (ho : o.Ok) (z3 : z 3 = .pointer none) (z8 : z 8 = .pointer (some ⟨N, 0, none⟩)) (I : NS w0 gz gw s s oz ow w) (hN : BlkAt oz ow w N (opO o))
    (hret : ∀ x oz ow w', (∀ j, j < 9 → x j = z j) → NS w0 gz gw s s oz ow w' → BlkAt oz ow w' N (opO o) → RM Try.prog Z (G ((base 5).at (A5 x) R) cs) w') :
    RM Try.prog Z (G ((base 5).at (A5 z) (.code rest17 :: R)) cs) w := by
  have hxs : Hid (∀ x : Nat → Value, (∀ j, j < 9 → x j = z j) → ∀ oz ow w', NS w0 gz gw s s oz ow w' → BlkAt oz ow w' N (opO o) → RM Try.prog Z (G ((base 5).at (A5 x) R) cs) w') := Lib.hid fun x hx oz ow w' h1 h2 => hret x oz ow w' hx h1 h2
  clear hret
  rw [show rest17 = Code.seq (Code.region _ _ _) _ from rfl]
  refine x_seqR rm_xc fun R0 hR0 => ?_
  refine rm_reg 2 (by decide) (by decide) (calm0 (by kernel_rfl)) fun wp hp => ?_
  simp only [List.take_succ_cons, List.take_zero]
  have gn : wp.heap[N]? = some (.cells #[.int .i64 o.kind, .int .i64 o.a, .int .i64 o.b, .int .i64 o.c] 45 (0, 0)) := (congrArg (·[N]?) hp.heap).trans hN.at_
  have a0 := cellAt gn 0
  have a1 := cellAt gn 1
  have a2 := cellAt gn 2
  have a3 := cellAt gn 3
  simp only [List.getElem?_toArray, List.getElem?_cons_zero, List.getElem?_cons_succ] at a0 a1 a2 a3
  replace gn := Lib.hid gn
  replace hp := Lib.hid hp
  unfold A5
  simp only [z3, z8]
  go_wp2_with fail
  clear a0 a1 a2 a3 gn
  refine rm_after rfl fun w1 h1 => ?_
  have L := (LeftW.of_sim hp.out.heap hp.out.outs).sim h1
  clear h1 hp wp
  replace I := I.left L
  replace hN := hN.keep (hk_left L)
  clear L
  refine x_callF rm_xc rfl rfl (by decide) rfl Try.func21 (by kernel_rfl) (by kernel_rfl) ?_
  walk_nrm
  rw [show Value.agg #[.int .i64 o.kind, .int .i64 o.a, .int .i64 o.b, .int .i64 o.c] = opV o from rfl]
  refine callN_runs ho fun w2 v L hrow => ?_
  replace I := I.left L
  replace hN := hN.keep (hk_left L)
  clear L
  have hrow2 := Lib.hid (intsAt_own hrow)
  obtain ⟨v1, v2, v3, rfl⟩ := slice_row hrow
  clear hrow
  rw [Frame.finish_at]
  walk_nrm
  refine rm_more 3 2 (by decide) (by decide) (calm0 (by kernel_rfl)) fun wp hp => ?_
  simp only [List.drop_succ_cons, List.drop_zero, List.take_succ_cons, List.take_zero]
  obtain ⟨M, hM⟩ : ∃ M, wp.heap.size = M := ⟨_, rfl⟩
  replace hp := Lib.hid hp
  unfold ansV
  replace hM := Lib.hid hM
  have hMM := hM.out
  go_wp2_with fail
  refine rm_after rfl fun w3 h1 => ?_
  have L := ((LeftW.of_sim hp.out.heap hp.out.outs).alloc (.cells #[.bool (nilR o).ok, .int .i64 (nilR o).n, .slice v1 v2 v3] 42)).sim h1
  have b3 : w3.heap[M]? = some (.cells #[.bool (nilR o).ok, .int .i64 (nilR o).n, .slice v1 v2 v3] 42 (0, 0)) := by rw [h1.heap, ← hMM]; exact heap_alloc_new _ _
  have hlM : w2.heap.size ≤ M := by rw [← hMM, hp.out.heap]; exact Nat.le_refl _
  have hB3 : BlkAt oz ow w3 M (.cells #[.bool (nilR o).ok, .int .i64 (nilR o).n, .slice v1 v2 v3] 42 (0, 0)) := ⟨I.z.new M hlM, I.wt.new M hlM, b3⟩
  have j3 : IntsAt w3 (.slice v1 v2 v3) (nilR o).l := hrow2.out.mono L.same
  try rw [hMM]
  replace I := I.left L
  replace hN := hN.keep (hk_left L)
  replace j3 := Lib.hid j3
  clear h1 hp hMM hM L b3 hlM hrow2 wp
  refine x_regionEnd rm_xc ?_
  obtain rfl := hR0.out
  clear hR0
  refine x_seqR rm_xc fun R0 hR0 => ?_
  refine rm_seg prgN (calmCode_of ext_ok (by kernel_rfl)) rfl (calmRes_of Try.func5) rfl fun wp hp => ?_
  obtain ⟨M2, hM⟩ : ∃ M, wp.heap.size = M := ⟨_, rfl⟩
  have hMM := hM
  replace hM := Lib.hid hM
  replace hp := Lib.hid hp
  go_wp2_with fail
  refine fun w4 h1 => ?_
  have L := ((LeftW.of_sim hp.out.heap hp.out.outs).alloc ansO).sim h1
  have b4' : w4.heap[M2]? = some ansO := by rw [h1.heap, ← hMM]; exact heap_alloc_new _ _
  have hlM : w3.heap.size ≤ M2 := by rw [← hMM, hp.out.heap]; exact Nat.le_refl _
  have hlo : w0.heap.size ≤ M2 := Nat.le_trans I.l.size hlM
  have hB4 : BlkAt oz ow w4 M2 ansO := ⟨I.z.new M2 hlM, I.wt.new M2 hlM, b4'⟩
  have ne : M ≠ M2 := by have := (Array.getElem?_eq_some_iff.1 hB3.at_).1; omega
  have neN : N ≠ M2 := by have := (Array.getElem?_eq_some_iff.1 hN.at_).1; omega
  try rw [hMM]
  replace I := I.left L
  replace hN := hN.keep (hk_left L)
  replace hB3 := hB3.keep (hk_left L)
  have k34 := Lib.hid L
  have hl4 := Lib.hid hlM
  clear h1 hp hMM hM L b4' hlM wp
  obtain rfl := hR0.out
  clear hR0
  refine x_seqR rm_xc fun R0 hR0 => ?_
  rw [a5_of _ rfl]
  have e4 : ∀ j, j < 9 → (fun j => Array.getD (#[] : Array Value) j undef) j = undef := fun j _ => rfl
  clear e4
  refine want_runs (N := N) (K := M2) (o := o) (by first | rfl | exact z8) rfl hN.at_ hB4.at_ fun x w5 hx5 hW => ?_
  have y3 : x 3 = .pointer none := hx5 3 (by decide)
  have y11 : x 11 = .pointer (some ⟨M, 0, none⟩) := hx5 11 (by decide)
  have y12 : x 12 = .pointer (some ⟨M2, 0, none⟩) := hx5 12 (by decide)
  have hz : ∀ j, j < 9 → x j = z j := fun j hj => (hx5 j (by omega)).trans (by rcases j with _ | _ | _ | _ | _ | _ | _ | _ | _ | j <;> first | rfl | exact z3.symm | exact z8.symm | omega)
  replace I := I.want hB4.z hB4.wt hlo hW
  obtain ⟨q1, q2, q3, u4, hb4, i4⟩ := hW
  have hN5 : w5.heap[N]? = some (opO o) := (q1 N (Array.getElem?_eq_some_iff.1 hN.at_).1 neN).trans hN.at_
  replace hN : BlkAt oz ow w5 N (opO o) := ⟨hN.z, hN.wt, hN5⟩
  have b3 : w5.heap[M]? = some (.cells #[.bool (nilR o).ok, .int .i64 (nilR o).n, .slice v1 v2 v3] 42 (0, 0)) := (q1 M (Array.getElem?_eq_some_iff.1 hB3.at_).1 ne).trans hB3.at_
  have j5 : IntsAt w5 (.slice v1 v2 v3) (nilR o).l := j3.out.mono fun b hb => (q1 b (by have := k34.out.size; omega) (by have := hl4.out; omega)).trans (k34.out.same b hb)
  have hrl : (nilR o).l.length ≤ 1000000000 := by
    unfold nilR
    repeat (split; first | (unfold toldC; split <;> simp) | simp)
    simp
  have hrl' := Lib.hid hrl
  clear hrl q1 q2 q3 hB3 hB4 hN5 hx5 hlo ne neN k34 hl4 j3
  generalize nilR o = rr at *
  obtain ⟨a4, c4, rfl⟩ := slice_ints i4
  obtain ⟨n, hn⟩ : ∃ n, rr.l.length = n := ⟨_, rfl⟩
  obtain ⟨e1, e2⟩ : v2 = n ∧ True := by obtain ⟨a, c, e⟩ := slice_ints j5; rw [hn] at e; cases e; exact ⟨rfl, trivial⟩
  clear e2
  subst e1
  rw [hn] at i4 hb4
  replace hn := Lib.hid hn
  replace j5 := Lib.hid j5
  replace i4 := Lib.hid i4
  clear z3 z8
  try (refine x_inBlock rm_xc ?_)
  obtain rfl := hR0.out
  clear hR0
  refine x_seqR rm_xc fun R0 hR0 => ?_
  refine rm_reg 4 (by decide) (by decide) (calm0 (by kernel_rfl)) fun wp hp => ?_
  simp only [List.take_succ_cons, List.take_zero]
  obtain ⟨M3, hM⟩ : ∃ M, wp.heap.size = M := ⟨_, rfl⟩
  have gk : wp.heap[M]? = some (.cells #[.bool rr.ok, .int .i64 rr.n, .slice v1 v2 v3] 42 (0, 0)) := (congrArg (·[M]?) hp.heap).trans b3
  have gk' : wp.heap[M2]? = some (.cells #[.bool rr.ok, .int .i64 rr.n, .slice a4 v2 c4] 42 (0, 0)) := (congrArg (·[M2]?) hp.heap).trans hb4
  have kl : M < wp.heap.size := (Array.getElem?_eq_some_iff.1 gk).1
  have kl' : M2 < wp.heap.size := (Array.getElem?_eq_some_iff.1 gk').1
  have k0 := cellAt gk 0
  have k1 := cellAt gk 1
  have k2 := cellAt gk 2
  have ga : (wp.alloc (.cells #[.bool rr.ok, .int .i64 rr.n, .slice v1 v2 v3] 42)).heap[M2]? = some (.cells #[.bool rr.ok, .int .i64 rr.n, .slice a4 v2 c4] 42 (0, 0)) := (Below.heap_alloc _ _ _ kl').trans gk'
  have k3 := cellAt ga 0
  have k4 := cellAt ga 1
  have k5 := cellAt ga 2
  simp only [List.getElem?_toArray, List.getElem?_cons_zero, List.getElem?_cons_succ] at k0 k1 k2 k3 k4 k5
  replace gk := Lib.hid gk
  replace gk' := Lib.hid gk'
  replace ga := Lib.hid ga
  replace kl := Lib.hid kl
  replace kl' := Lib.hid kl'
  replace hM := Lib.hid hM
  replace hz := Lib.hid hz
  unfold A5
  simp only [y3, y11, y12]
  replace hp := Lib.hid hp
  go_wp2_with fail
  refine rm_after rfl fun w6 h1 => ?_
  have L := ((LeftW.of_sim hp.out.heap hp.out.outs).alloc (.cells #[.bool rr.ok, .int .i64 rr.n, .slice v1 v2 v3] 42)).alloc (.cells #[.bool rr.ok, .int .i64 rr.n, .slice a4 v2 c4] 42) |>.sim h1
  obtain ⟨b1, b2⟩ := alloc2W hM.out h1.heap
  have hMM := hM.out
  rw [hMM]
  have j1 : IntsAt w6 (.slice v1 v2 v3) rr.l := j5.out.mono L.same
  have j2 : IntsAt w6 (.slice a4 v2 c4) rr.l := i4.out.mono L.same
  clear h1 hMM hM kl kl' ga gk gk' k0 k1 k2 k3 k4 k5 b3 hb4 j5 i4
  clear hp wp
  refine x_callF rm_xc rfl rfl (by decide) rfl Try.func22 (by kernel_rfl) (by kernel_rfl) ?_
  walk_nrm
  refine sameA_runs (l := [rr]) (fun q hq => by have h := List.mem_singleton.1 hq; rw [h]; exact hrl'.out) (ansIn_one b1 j1) (ansIn_one b2 j2) (by simp) fun w7 L2 => ?_
  replace I := I.left (L.trans L2)
  replace hN := hN.keep (hk_left (L.trans L2))
  clear b1 b2 j1 j2 L L2
  rw [Frame.finish_at]
  walk_nrm
  refine rm_more 5 3 (by decide) (by decide) (calm0 (by kernel_rfl)) fun wp hp => ?_
  simp only [List.drop_succ_cons, List.drop_zero, List.take_succ_cons, List.take_zero]
  replace hp := Lib.hid hp
  go_wp2_with fail
  refine rm_after rfl fun w8 h1 => ?_
  have L := (LeftW.of_sim hp.out.heap hp.out.outs).sim h1
  clear h1 hp wp
  replace I := I.left L
  replace hN := hN.keep (hk_left L)
  clear L
  refine x_callF rm_xc rfl rfl (by decide) rfl Try.func25 (by kernel_rfl) (by kernel_rfl) ?_
  walk_nrm
  refine membersN_runs fun w9 L => ?_
  replace I := I.left L
  replace hN := hN.keep (hk_left L)
  clear L
  rw [Frame.finish_at]
  walk_nrm
  refine rm_more 9 5 (by decide) (by decide) (calm0 (by kernel_rfl)) fun wp hp => ?_
  simp only [List.drop_succ_cons, List.drop_zero, List.take_succ_cons, List.take_zero]
  replace hp := Lib.hid hp
  go_wp2_with fail
  refine rm_after rfl fun w10 h1 => ?_
  have L := (LeftW.of_sim hp.out.heap hp.out.outs).sim h1
  clear h1 hp wp
  replace I := I.left L
  replace hN := hN.keep (hk_left L)
  clear L
  refine x_callF rm_xc rfl rfl (by decide) rfl Try.func26 (by kernel_rfl) (by kernel_rfl) ?_
  walk_nrm
  refine numbersN_runs fun w11 L => ?_
  replace I := I.left L
  replace hN := hN.keep (hk_left L)
  clear L
  rw [Frame.finish_at]
  walk_nrm
  refine rm_more 15 3 (by decide) (by decide) (calm0 (by kernel_rfl)) fun wp hp => ?_
  simp only [List.drop_succ_cons, List.drop_zero, List.take_succ_cons, List.take_zero]
  replace hp := Lib.hid hp
  go_wp2_with fail
  refine rm_after rfl fun w12 h1 => ?_
  have L := (LeftW.of_sim hp.out.heap hp.out.outs).sim h1
  clear h1 hp wp
  replace I := I.left L
  replace hN := hN.keep (hk_left L)
  refine x_regionEnd rm_xc ?_
  obtain rfl := hR0.out
  clear hR0
  refine x_cond rm_xc (t := false) rfl ?_
  refine x_skip rm_xc ?_
  rw [a5_of _ rfl]
  refine hxs.out _ ?_ _ _ _ I hN
  intro j hj
  rcases j with _ | _ | _ | _ | _ | _ | _ | _ | _ | j <;> first | exact hz.out _ (by decide) | exact y3.symm.trans (hz.out 3 (by decide)) | omega
end
end Go.Proofs.Ytofacoojpgkbiaa

/-
  GateNone f5, walked whole. No condition of its own.
-/
namespace Go.Proofs.Ytofacoojpgkbiaa
open Go.Conc Go.RowKit
open Go.ConcN (upd upd_ne upd_same)
set_option maxRecDepth 100000
structure Y5 (va : Value) (gz gw : Nat) (j : Nat) (x : Nat → Value) : Prop where
  x0 : x 0 = va
  x3 : x 3 = .pointer none
  x4 : x 4 = gpv gz
  x5 : x 5 = gpv gw
  x7 : x 7 = .int .i64 j
theorem Y5.of {va : Value} {gz gw j : Nat} {x y : Nat → Value} (h : Y5 va gz gw j x) (e : ∀ j, j < 9 → y j = x j) : Y5 va gz gw j y :=
  ⟨(e 0 (by decide)).trans h.x0, (e 3 (by decide)).trans h.x3, (e 4 (by decide)).trans h.x4, (e 5 (by decide)).trans h.x5, (e 7 (by decide)).trans h.x7⟩
theorem ansL_len {s : GateS} (hm : MemOk s.mem) (o : OpD) : (callR s o).1.l.length ≤ 1000000000 := by
  have h0 := memOk_len hm
  have ht : ∀ v e, (toldC v e).l.length ≤ 1000000000 := fun v e => by unfold toldC; split <;> simp
  unfold callR
  by_cases k1 : o.kind = 1
  · rw [if_pos k1]; exact ht _ _
  rw [if_neg k1]
  by_cases k2 : o.kind = 2
  · rw [if_pos k2]; exact ht _ _
  rw [if_neg k2]
  by_cases k3 : o.kind = 3
  · rw [if_pos k3]; exact ht _ _
  rw [if_neg k3]
  by_cases k4 : o.kind = 4
  · rw [if_pos k4]; exact ht _ _
  rw [if_neg k4]
  by_cases k5 : o.kind = 5
  · rw [if_pos k5]; show s.mem.length ≤ _; omega
  rw [if_neg k5]
  by_cases k6 : o.kind = 6
  · rw [if_pos k6]; simp
  rw [if_neg k6]
  by_cases k7 : o.kind = 7
  · rw [if_pos k7]; simp
  rw [if_neg k7]
  simp
section
variable {Z : Machine → Trace → Prop} {c : Frame} {cs : List Frame} {w0 : World} {gz gw cap : Nat} {ao : Option Addr} {L : List OpD} {R : List Item}
set_option maxHeartbeats 4000000 in
theorem ops_loop (hops : OpsIn w0 ao L.length cap L) (hL : L.length ≤ 9223372036854775807) (hret : ∀ x w', LeftW w0 w' → RM Try.prog Z (G ((base 5).at (A5 x) R) cs) w') :
    ∀ (k j : Nat), j + k = L.length → ∀ x s oz ow w, Y5 (.slice ao L.length cap) gz gw j x → NS w0 gz gw s s oz ow w → RM Try.prog Z (G ((base 5).at (A5 x) (.code ops5 :: .inLoop ops5 :: .inBlock 2 :: R)) cs) w := by
  intro k
  induction k with
  | zero =>
    intro j hj x s oz ow w hx I
    obtain ⟨n, hn⟩ : ∃ n, L.length = n := ⟨_, rfl⟩
    rw [hn] at hx hj
    obtain rfl : j = n := by omega
    have hret' := Lib.hid fun x w' (h : LeftW w0 w') => hret x w' h
    clear hret hops
    replace hn := Lib.hid hn
    refine x_seqB rm_xc rfl fun R0 hR0 => ?_
    rw [show cA ops5 = Code.seq _ _ from rfl]
    unfold A5
    simp only [hx.x0, hx.x3, hx.x4, hx.x5, hx.x7]
    unfold gpv
    refine x_seqR rm_xc fun R1 hR1 => ?_
    refine rm_seg prgN (calmCode_of ext_ok (by kernel_rfl)) rfl (calmRes_of Try.func5) rfl fun wp hp => ?_
    replace hp := Lib.hid hp
    go_wp2_with fail
    refine fun w1 h1 => ?_
    replace I := I.sim (h1.heap.trans hp.out.heap) ⟨h1.outs.1.trans hp.out.outs.1, h1.outs.2.trans hp.out.outs.2⟩
    clear h1 hp wp
    obtain rfl := hR1.out
    clear hR1
    refine x_cond rm_xc (t := false) rfl ?_
    obtain rfl := hR0.out
    refine x_exit rm_xc rfl ?_
    rw [a5_of _ rfl]
    exact hret'.out _ _ I.l
  | succ k ih =>
    intro j hj x s oz ow w hx I
    have hjL : j < L.length := by omega
    have nx : IntKind.i64.wrap ((j : Int) + 1) = ((j + 1 : Nat) : Int) := by rw [IntKind.wrap_i64]; omega
    have hop : L[j]? = some L[j] := List.getElem?_eq_getElem hjL
    have hok : L[j].Ok := hops.1 _ (List.getElem_mem hjL)
    obtain ⟨b, off, eao, hcell⟩ := hops.2.2.2 (by intro q; rw [q] at hjL; simp at hjL)
    obtain ⟨o0, o1, o2, o3⟩ := hcell j _ hop
    generalize L[j] = o at *
    have hret' := Lib.hid fun x w' (h : LeftW w0 w') => hret x w' h
    replace ih := Lib.hid ih
    obtain ⟨n, hn⟩ : ∃ n, L.length = n := ⟨_, rfl⟩
    rw [hn] at hx hjL hL
    have hlt' : (j : Int) < n := by omega
    clear hret hops hcell hop
    replace hn := Lib.hid hn
    refine x_seqB rm_xc rfl fun R0 hR0 => ?_
    rw [show cA ops5 = Code.seq _ _ from rfl]
    unfold A5
    simp only [hx.x0, hx.x3, hx.x4, hx.x5, hx.x7]
    unfold gpv
    refine x_seqR rm_xc fun R1 hR1 => ?_
    refine rm_seg prgN (calmCode_of ext_ok (by kernel_rfl)) rfl (calmRes_of Try.func5) rfl fun wp hp => ?_
    replace hp := Lib.hid hp
    replace hL := Lib.hid hL
    replace hj := Lib.hid hj
    go_wp2_with fail
    refine fun w1 h1 => ?_
    replace I := I.sim (h1.heap.trans hp.out.heap) ⟨h1.outs.1.trans hp.out.outs.1, h1.outs.2.trans hp.out.outs.2⟩
    clear h1 hp wp
    obtain rfl := hR1.out
    clear hR1
    refine x_cond rm_xc (t := true) rfl ?_
    refine x_skip rm_xc ?_
    obtain rfl := hR0.out
    clear hR0
    refine x_seqB rm_xc rfl fun R0 hR0 => ?_
    rw [show cA (cB ops5) = Code.block _ _ from rfl]
    refine x_block rm_xc ?_
    refine x_seqR rm_xc fun R1 hR1 => ?_
    refine rm_seg prgN (calmCode_of ext_ok (by kernel_rfl)) rfl (calmRes_of Try.func5) rfl fun wp hp => ?_
    have cc : ∀ i v, w0.cell? ⟨b, off + j * 4 + i, none⟩ = some v → wp.cell? ⟨b, off + j * 4 + i, none⟩ = some v := fun i v q => by
      refine (World.cell?_of_block (w := w0) ?_).trans q
      show wp.heap[b]? = w0.heap[b]?
      rw [hp.heap]
      exact I.l.same b (World.block_lt_of_cell? w0 _ q)
    have c0 := cc 0 _ o0
    have c1 := cc 1 _ o1
    have c2 := cc 2 _ o2
    have c3 := cc 3 _ o3
    rw [Nat.add_zero] at c0
    clear cc
    obtain ⟨N, hN⟩ : ∃ N, wp.heap.size = N := ⟨_, rfl⟩
    have hNN := hN
    replace hN := Lib.hid hN
    replace hp := Lib.hid hp
    subst eao
    go_wp2_with fail
    refine fun w2 h1 => ?_
    have L2 := ((LeftW.of_sim hp.out.heap hp.out.outs).alloc (.cells #[.int .i64 o.kind, .int .i64 o.a, .int .i64 o.b, .int .i64 o.c] 45)).sim h1
    have bN : w2.heap[N]? = some (opO o) := by rw [h1.heap, ← hNN]; exact heap_alloc_new _ _
    have hlN : w1.heap.size ≤ N := by rw [← hNN, hp.out.heap]; exact Nat.le_refl _
    have hB : BlkAt oz ow w2 N (opO o) := ⟨I.z.new N hlN, I.wt.new N hlN, bN⟩
    try rw [hNN]
    replace I := I.left L2
    clear h1 hp hNN hN L2 bN hlN c0 c1 c2 c3 o0 o1 o2 o3 wp
    obtain rfl := hR1.out
    clear hR1
    rw [a5_of _ rfl]
    have hm := I.z.rep.mem
    refine x_seqR rm_xc fun R1 hR1 => ?_
    refine pair_draw hok (s := s) (N := N) rfl rfl rfl I hB fun x1 oz1 ow1 w3 K K' u1 u2 hx1 x9 x10 hKK I B1 BK BK' i1 i2 => ?_
    obtain rfl := hR1.out
    clear hR1
    refine x_seqR rm_xc fun R1 hR1 => ?_
    refine cmp15_runs (r := (callR s o).1) (N := N) (K := K) (K' := K') ((hx1 4 (by decide)).trans rfl) ((hx1 5 (by decide)).trans rfl) x9 x10 I B1 BK BK' i1 i2 (ansL_len hm o) fun x2 oz2 ow2 w4 hx2 I B2 => ?_
    obtain rfl := hR1.out
    clear hR1
    refine rest17_runs (N := N) hok ((hx2 3 (by decide)).trans ((hx1 3 (by decide)).trans rfl)) ((hx2 8 (by decide)).trans ((hx1 8 (by decide)).trans rfl)) I B2 fun x3 oz3 ow3 w5 hx3 I B3 => ?_
    have hy : Y5 (.slice (some ⟨b, off, none⟩) n cap) gz gw j x3 := ⟨(hx3 0 (by decide)).trans ((hx2 0 (by decide)).trans ((hx1 0 (by decide)).trans rfl)), (hx3 3 (by decide)).trans ((hx2 3 (by decide)).trans ((hx1 3 (by decide)).trans rfl)), (hx3 4 (by decide)).trans ((hx2 4 (by decide)).trans ((hx1 4 (by decide)).trans rfl)), (hx3 5 (by decide)).trans ((hx2 5 (by decide)).trans ((hx1 5 (by decide)).trans rfl)), (hx3 7 (by decide)).trans ((hx2 7 (by decide)).trans ((hx1 7 (by decide)).trans rfl))⟩
    clear hx1 hx2 hx3 x9 x10 BK BK' i1 i2 B1 B2 B3 hB hKK
    refine x_inBlock rm_xc ?_
    obtain rfl := hR0.out
    clear hR0
    rw [show cB (cB ops5) = Code.region _ _ _ from rfl]
    unfold A5
    simp only [hy.x0, hy.x3, hy.x4, hy.x5, hy.x7]
    refine rm_seg prgN (calmCode_of ext_ok (by kernel_rfl)) rfl (calmRes_of Try.func5) rfl fun wp hp => ?_
    replace hp := Lib.hid hp
    go_wp2_with fail
    refine fun w6 h1 => ?_
    replace I := I.sim (h1.heap.trans hp.out.heap) ⟨h1.outs.1.trans hp.out.outs.1, h1.outs.2.trans hp.out.outs.2⟩
    clear h1 hp wp
    refine x_inLoop rm_xc ?_
    rw [a5_of _ rfl]
    have hjj := hj.out
    have hnn := hn.out
    refine ih.out (j + 1) (by omega) _ _ _ _ _ ?_ I
    rw [hnn]
    exact ⟨rfl, rfl, rfl, rfl, rfl⟩
end
end Go.Proofs.Ytofacoojpgkbiaa

/-
  GateNone f5, by goroutine 0: the law's function from its beginning to its end. No condition of its own.
-/
namespace Go.Proofs.Ytofacoojpgkbiaa
open Go.Conc Go.RowKit
open Go.ConcN (upd upd_ne upd_same)
set_option maxRecDepth 100000
theorem sJ0 : (sJ 0).ser = sZ.ser ∧ (sJ 0).mem = sZ.mem ∧ ∀ j, j < 64 → sZ.num j = (sJ 0).num j := ⟨rfl, rfl, fun j _ => (show (0 : Int) = if j < 0 then -1 else 0 by rw [if_neg (Nat.not_lt_zero j)])⟩
theorem sJ64 : (sJ 64).ser = (sW 0).ser ∧ (sJ 64).mem = (sW 0).mem ∧ ∀ j, j < 64 → (sW 0).num j = (sJ 64).num j := ⟨rfl, rfl, fun j h => by
  show (if j < 0 then (0 : Int) else -1) = if j < 64 then -1 else 0
  rw [if_neg (Nat.not_lt_zero j), if_pos h]⟩
theorem sW64 : (sW 64).ser = sZ.ser ∧ (sW 64).mem = sZ.mem ∧ ∀ j, j < 64 → sZ.num j = (sW 64).num j := ⟨rfl, rfl, fun j h => by
  show (0 : Int) = if j < 64 then 0 else -1
  rw [if_pos h]⟩
section
variable {Z : Machine → Trace → Prop} {cs : List Frame} {w : World} {cap : Nat} {ao : Option Addr} {L : List OpD}
set_option maxHeartbeats 4000000 in
theorem none_runs (hops : OpsIn w ao L.length cap L) (hL : L.length ≤ 9223372036854775807) (h : ∀ fr w', LeftW w w' → fr.fn = 5 → fr.leaving Try.prog w' (.returned (.bool true)) → RM Try.prog Z (G fr cs) w') : RM Try.prog Z (G (Frame.enter Try.prog 5 #[.slice ao L.length cap] .normal) cs) w := by
  rw [enter_at _ Try.func5 rfl]
  simp only [Try.ntmps5, List.size_toArray, List.length_cons, List.length_nil, Nat.reduceAdd, Nat.reduceSub, Array.replicate_succ,
     Array.replicate_zero, List.push_toArray, List.append_toArray, List.nil_append, List.cons_append]
  obtain ⟨n, hn⟩ : ∃ n, L.length = n := ⟨_, rfl⟩
  rw [hn]
  replace hops := Lib.hid hops
  replace hL := Lib.hid hL
  replace hn := Lib.hid hn
  replace h := Lib.hid h
  have I : LeftW w w := .refl
  refine x_seqR rm_xc fun R0 hR0 => ?_
  refine rm_seg prgN (calmCode_of ext_ok (by kernel_rfl)) rfl (calmRes_of Try.func5) rfl fun wp hp => ?_
  replace hp := Lib.hid hp
  go_wp2_with fail
  refine fun w1 h1 => ?_
  replace I := I.trans ((LeftW.of_sim hp.out.heap hp.out.outs).sim h1)
  clear h1 hp wp
  obtain rfl := hR0.out
  clear hR0
  refine x_seqR rm_xc fun R0 hR0 => ?_
  refine x_seqR rm_xc fun R1 hR1 => ?_
  refine x_region rm_xc ?_
  refine x_callF rm_xc rfl rfl (by decide) rfl Try.func16 (by kernel_rfl) (by kernel_rfl) ?_
  walk_nrm
  refine fixed_runs fun w2 L2 => ?_
  replace I := I.trans L2
  clear L2
  rw [Frame.finish_at]
  walk_nrm
  refine rm_more 1 1 (by decide) (by decide) (calm0 (by kernel_rfl)) fun wp hp => ?_
  simp only [List.drop_succ_cons, List.drop_zero, List.take_succ_cons, List.take_zero]
  replace hp := Lib.hid hp
  go_wp2_with fail
  refine rm_after rfl fun w3 h1 => ?_
  replace I := I.trans ((LeftW.of_sim hp.out.heap hp.out.outs).sim h1)
  clear h1 hp wp
  refine x_regionEnd rm_xc ?_
  obtain rfl := hR1.out
  clear hR1
  refine x_cond rm_xc (t := false) rfl ?_
  refine x_skip rm_xc ?_
  obtain rfl := hR0.out
  clear hR0
  refine x_seqR rm_xc fun R0 hR0 => ?_
  refine rm_seg prgN (calmCode_of ext_ok (by kernel_rfl)) rfl (calmRes_of Try.func5) rfl fun wp hp => ?_
  replace hp := Lib.hid hp
  go_wp2_with fail
  refine fun w4 h1 => ?_
  replace I := I.trans ((LeftW.of_sim hp.out.heap hp.out.outs).sim h1)
  clear h1 hp wp
  obtain rfl := hR0.out
  clear hR0
  refine x_seqR rm_xc fun R0 hR0 => ?_
  refine rm_seg prgN (calmCode_of ext_ok (by kernel_rfl)) rfl (calmRes_of Try.func5) rfl fun wp hp => ?_
  have hz := new_start wp
  obtain ⟨gz, hgz⟩ : ∃ M, wp.heap.size = M := ⟨_, rfl⟩
  have hgz' := hgz
  rw [hgz] at hz
  replace hz := Lib.hid hz
  replace hgz := Lib.hid hgz
  replace hp := Lib.hid hp
  go_wp2_with fail
  refine fun w5 h1 => ?_
  obtain ⟨G1, L1⟩ := hz.out.gateJ hgz'
  replace G1 : GW gz sZ (fun b => if b = gz then .sh else .out) w5 := (G1.nums sJ0.1.symm sJ0.2.1.symm sJ0.2.2).keep (by rw [h1.heap]; exact Nat.le_refl _) fun b _ _ => by rw [h1.heap]
  have hg0 : w.heap.size ≤ gz := by rw [← hgz', hp.out.heap]; exact I.size
  replace I := I.trans ((LeftW.of_sim hp.out.heap hp.out.outs).trans (L1.sim h1))
  try rw [hgz']
  clear h1 hp hz hgz hgz' L1 wp
  obtain rfl := hR0.out
  clear hR0
  refine x_seqR rm_xc fun R0 hR0 => ?_
  refine rm_seg prgN (calmCode_of ext_ok (by kernel_rfl)) rfl (calmRes_of Try.func5) rfl fun wp hp => ?_
  have hw := new_walk wp
  obtain ⟨gw, hgw⟩ : ∃ M, wp.heap.size = M := ⟨_, rfl⟩
  have hgw' := hgw
  rw [hgw] at hw
  replace hgw := Lib.hid hgw
  unfold gpv at hw
  replace hp := Lib.hid hp
  replace hg0 := Lib.hid hg0
  go_wp2_with (go_at_call 20; refine hw.mono ?_; rintro e w' ⟨rfl, hG⟩; replace hG := Lib.hid hG)
  refine fun w6 h1 => ?_
  obtain ⟨G2, L2⟩ := hG.out.gateJ hgw'
  replace G2 : GW gw (sW 0) (fun b => if b = gw then .sh else .out) w6 := (G2.nums sJ64.1.symm sJ64.2.1.symm sJ64.2.2).keep (by rw [h1.heap]; exact Nat.le_refl _) fun b _ _ => by rw [h1.heap]
  have L3 : LeftW w5 w6 := (LeftW.of_sim hp.out.heap hp.out.outs).trans (L2.sim h1)
  have hlt : gz < gw := by
    obtain ⟨p, cc, c1, _⟩ := G1.rep.cell
    have := (Array.getElem?_eq_some_iff.1 c1).1
    rw [← hgw', hp.out.heap]
    exact this
  have hgg := hg0.out
  have J : NS w gz gw sZ (sW 0) (fun b => if b = gz then .sh else .out) (fun b => if b = gw then .sh else .out) w6 := ⟨G1.keep L3.size fun b hb _ => L3.same b hb, G2, fun b => by
    by_cases e : b = gz
    · right; exact if_neg (by omega)
    · left; exact if_neg e, I.trans L3, fun b hb => if_neg (by omega), fun b hb => if_neg (by omega)⟩
  clear h1 hp hG hw hgw hgw' L2 L3 G1 G2 I hlt hgg hg0 wp
  generalize (fun b => if b = gz then Owner.sh else .out) = oz at J
  generalize (fun b => if b = gw then Owner.sh else .out) = ow at J
  obtain rfl := hR0.out
  clear hR0
  refine x_seqR rm_xc fun R0 hR0 => ?_
  refine x_seqR rm_xc fun R1 hR1 => ?_
  refine rm_seg prgN (calmCode_of ext_ok (by kernel_rfl)) rfl (calmRes_of Try.func5) rfl fun wp hp => ?_
  replace hp := Lib.hid hp
  unfold gpv at *
  go_wp2_with fail
  refine fun w7 h1 => ?_
  replace J := J.sim (h1.heap.trans hp.out.heap) ⟨h1.outs.1.trans hp.out.outs.1, h1.outs.2.trans hp.out.outs.2⟩
  clear h1 hp wp
  obtain rfl := hR1.out
  clear hR1
  refine x_block rm_xc ?_
  refine x_loop rm_xc ?_
  rw [a5_of _ rfl]
  refine sets_loop (va := .slice ao n cap) (gz := gz) (gw := gw) (oz := oz) (w0 := w) (fun x ow w' hx J => ?_) 64 0 rfl _ ow w7 ⟨rfl, rfl, rfl, rfl⟩ rfl J
  obtain rfl := hR0.out
  clear hR0
  replace J : NS w gz gw sZ sZ oz ow w' := ⟨J.z, J.wt.nums sW64.1.symm sW64.2.1.symm sW64.2.2, J.dis, J.l, J.oz0, J.ow0⟩
  unfold A5
  simp only [hx.x0, hx.x3, hx.x4, hx.x5]
  unfold gpv
  refine x_seqR rm_xc fun R0 hR0 => ?_
  refine x_seqR rm_xc fun R1 hR1 => ?_
  refine rm_seg prgN (calmCode_of ext_ok (by kernel_rfl)) rfl (calmRes_of Try.func5) rfl fun wp hp => ?_
  replace hp := Lib.hid hp
  go_wp2_with fail
  refine fun w8 h1 => ?_
  replace J := J.sim (h1.heap.trans hp.out.heap) ⟨h1.outs.1.trans hp.out.outs.1, h1.outs.2.trans hp.out.outs.2⟩
  clear h1 hp wp
  obtain rfl := hR1.out
  clear hR1
  refine x_block rm_xc ?_
  refine x_loop rm_xc ?_
  rw [a5_of _ rfl]
  refine ops_loop (gz := gz) (gw := gw) hops.out hL.out (fun x w' l => ?_) L.length 0 (by omega) _ sZ oz ow w8 (by rw [hn.out]; exact ⟨rfl, rfl, rfl, rfl, rfl⟩) J
  obtain rfl := hR0.out
  clear hR0
  unfold A5
  refine x_seqR rm_xc fun R0 hR0 => ?_
  refine rm_seg prgN (calmCode_of ext_ok (by kernel_rfl)) rfl (calmRes_of Try.func5) rfl fun wp hp => ?_
  replace hp := Lib.hid hp
  go_wp2_with fail
  refine fun w9 h1 => ?_
  have l9 := l.trans ((LeftW.of_sim hp.out.heap hp.out.outs).sim h1)
  clear h1 hp wp
  obtain rfl := hR0.out
  clear hR0
  refine x_ret rm_xc ?_
  exact h.out _ _ l9 rfl ⟨rfl, rfl, rfl, _, Try.func5, (results_tmp (fn := Try.f5) (t := 2) rfl _ _ _).trans rfl⟩
end
end Go.Proofs.Ytofacoojpgkbiaa
