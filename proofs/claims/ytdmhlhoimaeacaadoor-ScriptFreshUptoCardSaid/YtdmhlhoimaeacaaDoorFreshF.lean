/-
  Room behind a row filled with zeros: 'append(s, make([]T, k)...)' of a row of the call's own. No walk.
-/
import Derived.Test.YtdmhlhoimaeacaaDoorSameF
import Derived.Lib.AppendZerosOnto
import Derived.Lib.AppendZeros
namespace Go.Proofs.YtdmhlhoimaeacaaDoor
open Go.RowKit
set_option linter.unusedVariables false

theorem setCells_grown (b : Nat) : ∀ (vs : List Value) (o : Nat) (w : World), w.grownBy (w.setCells b o vs) (some b)
  | [], _, w => ⟨rfl, rfl, rfl, Nat.le_refl _, fun _ _ _ => rfl⟩
  | v :: r, o, w => by
    have h1 := grown_set w b o v
    have h2 := setCells_grown b r (o + 1) (w.setCell ⟨b, o, none⟩ v)
    exact ⟨h2.os.trans h1.os, h2.tape.trans h1.tape, h2.output.trans h1.output, Nat.le_trans h1.size h2.size, fun q hq hne => (h2.block q (Nat.lt_of_lt_of_le hq h1.size) hne).trans (h1.block q hq hne)⟩
theorem run_append_zeros {P : Program} (w : World) (N : Nat) (t tn ty e : TypeId) {z : Value} {k bytes : Nat} (ht : P.underlying t = some (.slice e)) (htn : P.underlying tn = some (.int .i64)) (hinfo : (P.info? e).map (fun i => (i.zero, i.size, i.bytes)) = some (some z, k, bytes))
    (hk : 0 < k) (hb : bytes ≤ 100) (hzs : z.cells.size = k) (hz1 : ∀ u ∈ z.cells.toList, u.oneCell' = true) {v : Value} {n : Nat} {xs : List Value} (hown : w.ownsRow N e k v n xs) (hn : n ≤ 4000000) (m : Nat) (h0 : 0 < m) (hm : m ≤ 1000) :
    ∃ v' w', (Builtin.append_ #[t, tn] ty #[v, .int .i64 (m : Int)]).run P w = .ok v' w' ∧ w.grownBy w' v.ownBlock := by
  obtain ⟨i, hi, hz, hsize, hby⟩ := info_parts hinfo
  subst hsize hby
  rcases hown.2 with ⟨rfl, hn0⟩ | ⟨g, cap, cur, rfl, hNg, hg, hnc, hcm, hcs, htk⟩
  · subst hn0
    have hr := Lib.run_append_grow_zeros (P := P) w t tn ty e i z .i64 .i64 ht htn hi hz none 0 0 [] (run_firstCells_none w.drew i.size 0 0 0) m h0 hk (by omega) (by omega) (by have : m * i.bytes ≤ 1000 * 100 := Nat.mul_le_mul hm hb; omega)
      (growslice_fits (by omega) (by have : (0 + m) * i.bytes ≤ 1000 * 100 := Nat.mul_le_mul (by omega) hb; omega))
    exact ⟨_, _, hr, ⟨rfl, rfl, rfl, by simp, fun q hq _ => Below.heap_alloc w.drew _ q hq⟩⟩
  · by_cases hroom : n + m ≤ cap
    · have hzc : (Builtin.zeroCells z.cells m).size = m * i.size := by rw [size_zeroCells, hzs]
      have hin : ∀ j, j < (Builtin.zeroCells z.cells m).toList.length → (w.cell? ⟨g, n * i.size + 0 + j, none⟩).isSome = true := by
        intro j hj
        rw [Array.length_toList, hzc] at hj
        have h1 : (n + m) * i.size ≤ cap * i.size := Nat.mul_le_mul_right _ hroom
        rw [Nat.add_mul] at h1
        have h2 : n * i.size + 0 + j < cur.size := by rw [hcs]; omega
        rw [cell_of hg, Array.getElem?_eq_getElem h2]
        rfl
      have hst := run_storeCells_cells (P := P) g (n * i.size) (Builtin.zeroCells z.cells m).toList 0 w hin (fun j _ => free_of hg _) (by
        intro u hu
        simp only [Builtin.zeroCells, Array.toList_map, List.mem_map] at hu
        obtain ⟨j, _, rfl⟩ := hu
        have hj : j % z.cells.size < z.cells.size := Nat.mod_lt _ (by omega)
        rw [getElem!_pos z.cells _ hj]
        exact hz1 _ (Array.mem_toList_iff.2 (Array.getElem_mem hj)))
      have hm0 : ¬ m * i.size = 0 := Nat.mul_ne_zero (by omega) (by omega)
      have hw : IntKind.i64.wrap (m : Int) = m := by rw [IntKind.wrap_i64]; omega
      have hm1 : ¬ ((m : Int) < 0) := by omega
      have h48 : ¬ (281474976710656 < (m : Int) * (i.bytes : Int)) := by
        have h : m * i.bytes ≤ 1000 * 100 := Nat.mul_le_mul hm hb
        have h2 : ((m * i.bytes : Nat) : Int) ≤ 100000 := by omega
        rw [Int.natCast_mul] at h2
        omega
      have hadd : (⟨g, 0, none⟩ : Addr).add (n * i.size) = ⟨g, n * i.size, none⟩ := by rw [addr_add, Nat.zero_add]
      refine ⟨.slice (some ⟨g, 0, none⟩) (n + m) cap, w.setCells g (n * i.size + 0) (Builtin.zeroCells z.cells m).toList, ?_, setCells_grown _ _ _ _⟩
      simp [Builtin.append_, run_underlying ht, run_underlying htn, sizeOf, typeInfo, hi, asInt, asIntOf, hw, hm1, h48, hroom, hm0, zeroValue, hz, hadd]
      simp only [Nat.add_zero] at hst
      simp [hst]
    · have holds : ∀ j u, xs[j]? = some u → w.cell? ((⟨g, 0, none⟩ : Addr).add j) = some u := hown.cells (g := g) rfl
      have hr := Lib.run_append_grow_zeros (P := P) w t tn ty e i z .i64 .i64 ht htn hi hz (some ⟨g, 0, none⟩) n cap xs (run_firstCells_some w.drew i.size n ⟨g, 0, none⟩ n cap xs hown.1 holds) m h0 hk (by omega) (by omega) (by have : m * i.bytes ≤ 1000 * 100 := Nat.mul_le_mul hm hb; omega)
        (growslice_fits (by omega) (by have : (n + m) * i.bytes ≤ 4001000 * 100 := Nat.mul_le_mul (by omega) hb; omega))
      exact ⟨_, _, hr, ⟨rfl, rfl, rfl, by simp, fun q hq _ => Below.heap_alloc w.drew _ q hq⟩⟩
/-- Only blocks of [lo, hi), and new ones, are other than they were. -/
structure Zone (lo hi : Nat) (w w' : World) : Prop where
  os : w'.os = w.os
  tape : w'.tape = w.tape
  output : w'.output = w.output
  size : w.heap.size ≤ w'.heap.size
  block : ∀ q, q < w.heap.size → ¬ (lo ≤ q ∧ q < hi) → w'.heap[q]? = w.heap[q]?
section
variable {lo hi : Nat} {w w' w'' : World}
theorem Zone.refl (lo hi : Nat) (w : World) : Zone lo hi w w := ⟨rfl, rfl, rfl, Nat.le_refl _, fun _ _ _ => rfl⟩
theorem Zone.trans (h : Zone lo hi w w') (k : Zone lo hi w' w'') : Zone lo hi w w'' :=
  ⟨k.os.trans h.os, k.tape.trans h.tape, k.output.trans h.output, Nat.le_trans h.size k.size, fun q hq hn => (k.block q (Nat.lt_of_lt_of_le hq h.size) hn).trans (h.block q hq hn)⟩
theorem Zone.of_grown {row : Option Nat} (h : w.grownBy w' row) (hr : ∀ q, row = some q → lo ≤ q ∧ q < hi) : Zone lo hi w w' :=
  ⟨h.os, h.tape, h.output, h.size, fun q hq hn => h.block q hq (fun e => hn (hr q e.symm))⟩
theorem Zone.of_below (h : Below w.heap.size w w') : Zone lo hi w w' := ⟨h.os, h.tape, h.output, h.size, fun q hq _ => h.block q hq⟩
theorem Zone.low (h : Zone lo hi w w') (hl : lo ≤ w.heap.size) : Below lo w w' :=
  ⟨h.os, h.tape, h.output, h.size, fun q hq => h.block q (by omega) (fun e => by omega)⟩
theorem own_zone {B e k n : Nat} {v : Value} {xs : List Value} (h : w.ownsRow B e k v n xs) (hB : hi ≤ B) (hz : Zone lo hi w w') : w'.ownsRow B e k v n xs := by
  refine ⟨h.1, ?_⟩
  rcases h.2 with hn | ⟨g, cap, cur, rfl, hg, hgg, rest⟩
  · exact .inl hn
  · exact .inr ⟨g, cap, cur, rfl, hg, (hz.block g (Array.getElem?_eq_some_iff.1 hgg).1 (fun e => by omega)).trans hgg, rest⟩
end
/-- A row whose elements hold rows (at cell c of k), written over up to i. -/
structure Writ (w : World) (lo hi e k c : Nat) (v : Value) (V : Nat → Value) (n : Nat) (len : Nat → Nat) (i : Nat) : Prop where
  row : ∃ vs, w.ownsRow lo e k v n vs ∧ ∀ j, i ≤ j → j < n → vs[j * k + c]? = some (V j)
  rowhi : ∀ q, v.ownBlock = some q → q < hi
  each : ∀ j, i ≤ j → j < n → ∃ xs, w.ownsRow lo 65 4 (V j) (len j) xs
  eachhi : ∀ j, i ≤ j → j < n → ∀ q, (V j).ownBlock = some q → q < hi
  apart : ∀ j j', i ≤ j → j < n → i ≤ j' → j' < n → j ≠ j' → (V j).ownBlock = none ∨ (V j).ownBlock ≠ (V j').ownBlock
section
variable {lo hi e k c : Nat} {w w' : World} {v : Value} {V : Nat → Value} {n i : Nat} {len : Nat → Nat}
theorem Writ.lower (h : Writ w lo hi e k c v V n len i) (hb : Below w.heap.size w w') : Writ w' lo hi e k c v V n len i := by
  obtain ⟨vs, h1, h2⟩ := h.row
  exact ⟨⟨vs, own_below h1 hb, h2⟩, h.rowhi, fun j h3 h4 => by obtain ⟨xs, h5⟩ := h.each j h3 h4; exact ⟨xs, own_below h5 hb⟩, h.eachhi, h.apart⟩
/-- What grows at the row of one element leaves the others. -/
theorem Writ.at (h : Writ w lo hi e k c v V n len i) (he : e ≠ 65) (hi1 : i < n) (hg : w.grownBy w' (V i).ownBlock) (hx : ∃ xs, w'.ownsRow lo 65 4 (V i) (len i) xs) : Writ w' lo hi e k c v V n len i := by
  obtain ⟨vs, h1, h2⟩ := h.row
  obtain ⟨xi, hxi⟩ := h.each i (Nat.le_refl _) hi1
  refine ⟨⟨vs, own_other h1 hxi hg he, h2⟩, h.rowhi, fun j h3 h4 => ?_, h.eachhi, h.apart⟩
  by_cases e2 : j = i
  · subst e2; exact hx
  · obtain ⟨xs, h5⟩ := h.each j h3 h4
    exact ⟨xs, h5.kept hg (h.apart j i h3 h4 (Nat.le_refl _) hi1 e2)⟩
/-- The element's own row may be anything from here on. -/
theorem Writ.next (h : Writ w lo hi e k c v V n len i) (he : e ≠ 65) (hi1 : i < n) (hg : w.grownBy w' (V i).ownBlock) : Writ w' lo hi e k c v V n len (i + 1) := by
  obtain ⟨vs, h1, h2⟩ := h.row
  obtain ⟨xi, hxi⟩ := h.each i (Nat.le_refl _) hi1
  refine ⟨⟨vs, own_other h1 hxi hg he, fun j h3 h4 => h2 j (by omega) h4⟩, h.rowhi, fun j h3 h4 => ?_, fun j h3 h4 => h.eachhi j (by omega) h4, fun j j' h3 h4 h5 h6 => h.apart j j' (by omega) h4 (by omega) h6⟩
  obtain ⟨xs, h5⟩ := h.each j (by omega) h4
  exact ⟨xs, h5.kept hg (h.apart j i (by omega) h4 (Nat.le_refl _) hi1 (by omega))⟩
/-- A store into an element that is done with. -/
theorem Writ.store {g cap d : Nat} (h : Writ w lo hi e k c (.slice (some ⟨g, 0, none⟩) n cap) V n len (i + 1)) (he : e ≠ 65) (hd : d < (i + 1) * k) (hk : 0 < k) (u : Value) : Writ (w.setCell ⟨g, d, none⟩ u) lo hi e k c (.slice (some ⟨g, 0, none⟩) n cap) V n len (i + 1) ∧ Zone lo hi w (w.setCell ⟨g, d, none⟩ u) := by
  obtain ⟨vs, h1, h2⟩ := h.row
  obtain ⟨h3, hg⟩ := h1.stored d u
  refine ⟨⟨⟨_, h3, fun j h4 h5 => ?_⟩, h.rowhi, fun j h4 h5 => ?_, h.eachhi, h.apart⟩, .of_grown hg (fun q hq => by cases hq; exact ⟨(h1.lt g rfl).1, h.rowhi g rfl⟩)⟩
  · rw [List.getElem?_set_ne]
    · exact h2 j h4 h5
    · have : (i + 1) * k ≤ j * k := Nat.mul_le_mul_right _ h4
      omega
  · obtain ⟨xs, h6⟩ := h.each j h4 h5
    exact ⟨xs, h6.kept hg (own_apart h6 h1 (fun e => he e.symm))⟩
theorem Writ.block (h : Writ w lo hi e k c v V n len i) {j : Nat} (h1 : i ≤ j) (h2 : j < n) : ∀ q, (V j).ownBlock = some q → lo ≤ q ∧ q < hi := fun q hq => by
  obtain ⟨xs, h3⟩ := h.each j h1 h2
  exact ⟨(h3.lt q hq).1, h.eachhi j h1 h2 q hq⟩
/-- The row itself: where it lies. -/
theorem Writ.at_row (h : Writ w lo hi e k c v V n len i) (hn : 0 < n) : ∃ g cap, v = .slice (some ⟨g, 0, none⟩) n cap := by
  obtain ⟨vs, h1, h2⟩ := h.row
  rcases h1.2 with ⟨_, h0⟩ | ⟨g, cap, cur, e1, _⟩
  · omega
  · exact ⟨g, cap, e1⟩
theorem Writ.at_each (h : Writ w lo hi e k c v V n len i) (hi1 : i < n) (hl : 0 < len i) : ∃ g cap, V i = .slice (some ⟨g, 0, none⟩) (len i) cap := by
  obtain ⟨xs, h1⟩ := h.each i (Nat.le_refl _) hi1
  rcases h1.2 with ⟨_, h0⟩ | ⟨g, cap, cur, e1, _⟩
  · omega
  · exact ⟨g, cap, e1⟩
theorem Writ.at_len (h : Writ w lo hi e k c v V n len i) (hi1 : i < n) : ∃ p cap, V i = .slice p (len i) cap := by
  obtain ⟨xs, h1⟩ := h.each i (Nat.le_refl _) hi1
  exact own_slice h1
/-- The element's cell, and that it may be stored into. -/
theorem Writ.cell {g cap : Nat} (h : Writ w lo hi e k c (.slice (some ⟨g, 0, none⟩) n cap) V n len i) (hi1 : i < n) (hc : c < k) : w.cell? ⟨g, i * k + c, none⟩ = some (V i) := by
  obtain ⟨vs, h1, h2⟩ := h.row
  have h3 := h2 i (Nat.le_refl _) hi1
  rw [h1.cellAt _ (by have : (i + 1) * k ≤ n * k := Nat.mul_le_mul_right _ hi1; rw [Nat.add_mul] at this; omega)]
  exact h3
theorem Writ.slot {g cap : Nat} (h : Writ w lo hi e k c (.slice (some ⟨g, 0, none⟩) n cap) V n len i) (d : Nat) (hd : d < n * k) : (∃ u, w.cell? ⟨g, d, none⟩ = some u) ∧ w.frozen? ⟨g, d, none⟩ = false := by
  obtain ⟨vs, h1, h2⟩ := h.row
  refine ⟨?_, h1.frozenAt _⟩
  have h3 : d < vs.length := by rw [h1.1]; exact hd
  exact ⟨_, (h1.cellAt _ hd).trans (List.getElem?_eq_getElem h3)⟩
theorem Writ.cellOp (h : Writ w lo hi e k c v V n len i) (hi1 : i < n) {g cap : Nat} (hv : V i = .slice (some ⟨g, 0, none⟩) (len i) cap) (d : Nat) (hd : d < len i * 4) : (∃ u, w.cell? ⟨g, d, none⟩ = some u) ∧ w.frozen? ⟨g, d, none⟩ = false := by
  obtain ⟨xs, h1⟩ := h.each i (Nat.le_refl _) hi1
  rw [hv] at h1
  refine ⟨?_, h1.frozenAt _⟩
  have h3 : d < xs.length := by rw [h1.1]; exact hd
  exact ⟨_, (h1.cellAt _ hd).trans (List.getElem?_eq_getElem h3)⟩
theorem Writ.putOp (h : Writ w lo hi e k c v V n len i) (he : e ≠ 65) (hi1 : i < n) {g cap : Nat} (hv : V i = .slice (some ⟨g, 0, none⟩) (len i) cap) (d : Nat) (u : Value) : Writ (w.setCell ⟨g, d, none⟩ u) lo hi e k c v V n len i ∧ Zone lo hi w (w.setCell ⟨g, d, none⟩ u) := by
  obtain ⟨xs, h1⟩ := h.each i (Nat.le_refl _) hi1
  have h2 := h1
  rw [hv] at h2
  obtain ⟨h3, hg⟩ := h2.stored d u
  have hb : (V i).ownBlock = some g := by rw [hv]; rfl
  refine ⟨h.at he hi1 (by rw [hb]; exact hg) ⟨_, by rw [hv]; exact h3⟩, .of_grown hg (fun q hq => h.block (Nat.le_refl _) hi1 q (by rw [hb]; exact hq))⟩
end
/-- A row that is written over: what it holds is nobody's matter. -/
structure Wrt (w : World) (lo hi e k : Nat) (v : Value) (n : Nat) : Prop where
  row : ∃ xs, w.ownsRow lo e k v n xs
  upto : ∀ q, v.ownBlock = some q → q < hi
section
variable {lo hi e k n e' k' n' c i : Nat} {w w' : World} {v v' : Value} {V : Nat → Value} {len : Nat → Nat}
theorem Wrt.at_row (h : Wrt w lo hi e k v n) (hn : 0 < n) : ∃ g cap, v = .slice (some ⟨g, 0, none⟩) n cap := by
  obtain ⟨vs, h1⟩ := h.row
  rcases h1.2 with ⟨_, h0⟩ | ⟨g, cap, cur, e1, _⟩
  · omega
  · exact ⟨g, cap, e1⟩
theorem Wrt.slot {g cap : Nat} (h : Wrt w lo hi e k (.slice (some ⟨g, 0, none⟩) n cap) n) (d : Nat) (hd : d < n * k) : (∃ u, w.cell? ⟨g, d, none⟩ = some u) ∧ w.frozen? ⟨g, d, none⟩ = false := by
  obtain ⟨vs, h1⟩ := h.row
  refine ⟨?_, h1.frozenAt _⟩
  have h3 : d < vs.length := by rw [h1.1]; exact hd
  exact ⟨_, (h1.cellAt _ hd).trans (List.getElem?_eq_getElem h3)⟩
theorem Wrt.kept (h : Wrt w lo hi e' k' v' n') {xs : List Value} (h2 : w.ownsRow lo e k v n xs) (hg : w.grownBy w' v.ownBlock) (hne : e' ≠ e) : Wrt w' lo hi e' k' v' n' := by
  obtain ⟨vs, h1⟩ := h.row
  exact ⟨⟨vs, own_other h1 h2 hg hne⟩, h.upto⟩
theorem Wrt.put {g cap : Nat} (h : Wrt w lo hi e k (.slice (some ⟨g, 0, none⟩) n cap) n) (d : Nat) (u : Value) : Wrt (w.setCell ⟨g, d, none⟩ u) lo hi e k (.slice (some ⟨g, 0, none⟩) n cap) n ∧ Zone lo hi w (w.setCell ⟨g, d, none⟩ u) := by
  obtain ⟨vs, h1⟩ := h.row
  obtain ⟨h3, hg⟩ := h1.stored d u
  exact ⟨⟨⟨_, h3⟩, h.upto⟩, .of_grown hg (fun q hq => by cases hq; exact ⟨(h1.lt g rfl).1, h.upto g rfl⟩)⟩
theorem Wrt.other (h : Wrt w lo hi e' k' v' n') {g cap : Nat} (h2 : Wrt w lo hi e k (.slice (some ⟨g, 0, none⟩) n cap) n) (hne : e' ≠ e) (d : Nat) (u : Value) : Wrt (w.setCell ⟨g, d, none⟩ u) lo hi e' k' v' n' := by
  obtain ⟨vs, h1⟩ := h2.row
  exact h.kept h1 (h1.stored d u).2 hne
theorem Writ.putOther (h : Writ w lo hi e k c v V n len i) (hi1 : i < n) {g cap : Nat} (hv : V i = .slice (some ⟨g, 0, none⟩) (len i) cap) (h2 : Wrt w lo hi e' k' v' n') (hne : e' ≠ 65) (d : Nat) (u : Value) : Wrt (w.setCell ⟨g, d, none⟩ u) lo hi e' k' v' n' := by
  obtain ⟨xs, h1⟩ := h.each i (Nat.le_refl _) hi1
  rw [hv] at h1
  exact h2.kept h1 (h1.stored d u).2 hne
theorem Writ.nextOther (h : Writ w lo hi e k c v V n len i) (hi1 : i < n) (hg : w.grownBy w' (V i).ownBlock) (h2 : Wrt w lo hi e' k' v' n') (hne : e' ≠ 65) : Wrt w' lo hi e' k' v' n' := by
  obtain ⟨xs, h1⟩ := h.each i (Nat.le_refl _) hi1
  exact h2.kept h1 hg hne
theorem Writ.storeOther {g cap : Nat} (h : Writ w lo hi e k c (.slice (some ⟨g, 0, none⟩) n cap) V n len i) (h2 : Wrt w lo hi e' k' v' n') (hne : e' ≠ e) (d : Nat) (u : Value) : Wrt (w.setCell ⟨g, d, none⟩ u) lo hi e' k' v' n' := by
  obtain ⟨vs, h1, _⟩ := h.row
  exact h2.kept h1 (h1.stored d u).2 hne
/-- The rows of what was read, written over. -/
structure Par (w : World) (lo hi : Nat) (tv hv sv : Value) (V : Nat → Value) (nt nh ns : Nat) (len : Nat → Nat) (i : Nat) : Prop where
  thr : Writ w lo hi 58 2 1 hv V nh len i
  top : Wrt w lo hi 62 2 tv nt
  sch : Wrt w lo hi 3 1 sv ns
variable {tv hv sv : Value} {nt nh ns : Nat}
theorem Par.putOp (h : Par w lo hi tv hv sv V nt nh ns len i) (hi1 : i < nh) {g cap : Nat} (hvi : V i = .slice (some ⟨g, 0, none⟩) (len i) cap) (d : Nat) (u : Value) : Par (w.setCell ⟨g, d, none⟩ u) lo hi tv hv sv V nt nh ns len i ∧ Zone lo hi w (w.setCell ⟨g, d, none⟩ u) :=
  ⟨⟨(h.thr.putOp (by decide) hi1 hvi d u).1, h.thr.putOther hi1 hvi h.top (by decide) d u, h.thr.putOther hi1 hvi h.sch (by decide) d u⟩, (h.thr.putOp (by decide) hi1 hvi d u).2⟩
theorem Par.next (h : Par w lo hi tv hv sv V nt nh ns len i) (hi1 : i < nh) (hg : w.grownBy w' (V i).ownBlock) : Par w' lo hi tv hv sv V nt nh ns len (i + 1) :=
  ⟨h.thr.next (by decide) hi1 hg, h.thr.nextOther hi1 hg h.top (by decide), h.thr.nextOther hi1 hg h.sch (by decide)⟩
theorem Par.store {g cap d : Nat} (h : Par w lo hi tv (.slice (some ⟨g, 0, none⟩) nh cap) sv V nt nh ns len (i + 1)) (hd : d < (i + 1) * 2) (u : Value) : Par (w.setCell ⟨g, d, none⟩ u) lo hi tv (.slice (some ⟨g, 0, none⟩) nh cap) sv V nt nh ns len (i + 1) ∧ Zone lo hi w (w.setCell ⟨g, d, none⟩ u) :=
  ⟨⟨(h.thr.store (by decide) hd (by decide) u).1, h.thr.storeOther h.top (by decide) d u, h.thr.storeOther h.sch (by decide) d u⟩, (h.thr.store (by decide) hd (by decide) u).2⟩
/-- A row that lies below the zone. -/
theorem own_zone2 {B M : Nat} {xs : List Value} (h : w.ownsRow B e k v n xs) (hM : ∀ q, v.ownBlock = some q → q < M) (hl : M ≤ lo) (hz : Zone lo hi w w') : w'.ownsRow B e k v n xs := by
  refine ⟨h.1, ?_⟩
  rcases h.2 with hn | ⟨g, cap, cur, rfl, hg, hgg, rest⟩
  · exact .inl hn
  · have := hM g rfl
    exact .inr ⟨g, cap, cur, rfl, hg, (hz.block g (Array.getElem?_eq_some_iff.1 hgg).1 (fun e => by omega)).trans hgg, rest⟩
theorem RowsS.zone {N eT eH : Nat} {S : Scr} (h : RowsS w N eT eH tv hv sv V S) (hN : hi ≤ N) (hz : Zone lo hi w w') : RowsS w' N eT eH tv hv sv V S :=
  ⟨own_zone h.tops hN hz, own_zone h.sch hN hz, own_zone h.thrs hN hz, fun j hj => own_zone (h.each j hj) hN hz, h.apart⟩
/-- What was read, before anything is written over. -/
theorem RowsS.par {N : Nat} {S : Scr} (h : RowsS w N 62 58 tv hv sv V S) (hh : ∀ q, q < w.heap.size → q < hi) : Par w N hi tv hv sv V S.tops.length S.thrs.length S.sch.length (fun i => (S.thrs.getD i default).ops.length) 0 := by
  refine ⟨⟨⟨_, h.thrs, fun j _ hj => ?_⟩, fun q hq => hh q (h.thrs.lt q hq).2, fun j _ hj => ⟨_, h.each j hj⟩, fun j _ hj q hq => hh q ((h.each j hj).lt q hq).2, fun j j' _ hj _ hj' hne => h.apart j j' hj hj' hne⟩, ⟨⟨_, h.tops⟩, fun q hq => hh q (h.tops.lt q hq).2⟩, ⟨⟨_, h.sch⟩, fun q hq => hh q (h.sch.lt q hq).2⟩⟩
  rw [hcells_get _ _ j 1 hj (by omega)]
  rfl
theorem Par.below (h : Par w lo hi tv hv sv V nt nh ns len i) (hb : Below w.heap.size w w') : Par w' lo hi tv hv sv V nt nh ns len i := by
  obtain ⟨a, h1⟩ := h.top.row
  obtain ⟨b, h2⟩ := h.sch.row
  exact ⟨h.thr.lower hb, ⟨⟨a, own_below h1 hb⟩, h.top.upto⟩, ⟨⟨b, own_below h2 hb⟩, h.sch.upto⟩⟩
end
/-- Copies whose blocks lie below M. -/
structure CopiesIn (w : World) (B M : Nat) (v : Value) (V : Nat → Value) (n : Nat) (L : List Thr) : Prop where
  c : Copies w B v V n L
  rowM : ∀ q, v.ownBlock = some q → q < M
  eachM : ∀ i, i < n → ∀ q, (V i).ownBlock = some q → q < M
section
variable {lo hi B M n : Nat} {w w' : World} {v : Value} {V : Nat → Value} {L : List Thr}
theorem CopiesIn.of (h : Copies w B v V n L) : CopiesIn w B w.heap.size v V n L := ⟨h, fun q hq => (h.row.lt q hq).2, fun i hi q hq => ((h.each i hi).lt q hq).2⟩
theorem CopiesIn.below (h : CopiesIn w B M v V n L) (hb : Below w.heap.size w w') : CopiesIn w' B M v V n L := ⟨h.c.below hb, h.rowM, h.eachM⟩
theorem CopiesIn.zone (h : CopiesIn w B M v V n L) (hz : Zone lo hi w w') (hb : hi ≤ B ∨ M ≤ lo) : CopiesIn w' B M v V n L := by
  rcases hb with hb | hb
  · exact ⟨⟨own_zone h.c.row hb hz, fun i hi => own_zone (h.c.each i hi) hb hz, h.c.apart⟩, h.rowM, h.eachM⟩
  · exact ⟨⟨own_zone2 h.c.row h.rowM hb hz, fun i hi => own_zone2 (h.c.each i hi) (h.eachM i hi) hb hz, h.c.apart⟩, h.rowM, h.eachM⟩
end
theorem src_eight (w : World) : SrcOf (w.alloc (.cells #[.int .i64 1, .int .i64 2, .int .i64 3, .int .i64 4, .int .i64 5, .int .i64 6, .int .i64 7, .int .i64 8] 2)) 1 (.slice (some ⟨w.heap.size, 0, none⟩) 8 8) 8 [.int .i64 1, .int .i64 2, .int .i64 3, .int .i64 4, .int .i64 5, .int .i64 6, .int .i64 7, .int .i64 8] :=
  ⟨rfl, (by intro u hu; simp only [List.mem_cons, List.not_mem_nil, or_false] at hu; rcases hu with rfl | rfl | rfl | rfl | rfl | rfl | rfl | rfl <;> rfl), .inr ⟨⟨w.heap.size, 0, none⟩, 8, rfl, fun j u hu => cells_new w #[.int .i64 1, .int .i64 2, .int .i64 3, .int .i64 4, .int .i64 5, .int .i64 6, .int .i64 7, .int .i64 8] 2 j u hu⟩⟩
theorem Cpy.zone {w w' : World} {lo hi N xb : Nat} {tv hv sv : Value} {V : Nat → Value} {S : Scr} (h : Cpy w N xb tv hv sv V S) (hN : hi ≤ N) (hz : Zone lo hi w w') : Cpy w' N xb tv hv sv V S :=
  ⟨(hz.block xb h.lt (fun e => by have := h.gN; omega)).trans h.head, h.rows.zone hN hz, h.gN⟩
end Go.Proofs.YtdmhlhoimaeacaaDoor
