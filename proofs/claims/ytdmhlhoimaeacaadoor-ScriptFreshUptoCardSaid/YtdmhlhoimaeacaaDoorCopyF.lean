/-
  A copy of a script: rows of new memory. No walk.
-/
import Derived.Test.YtdmhlhoimaeacaaDoorOwnS
import Derived.Test.YtdmhlhoimaeacaaDoorThreads
import Derived.Test.YtdmhlhoimaeacaaDoorOpenS
namespace Go.Proofs.YtdmhlhoimaeacaaDoor
open Go.RowKit
set_option linter.unusedVariables false

theorem kindsC : Kinds 27 62 58 := ⟨by decide, by decide, by decide, by decide, by decide, by decide, by decide, by decide, by decide⟩
theorem SrcOf.alloc {w : World} {k m : Nat} {x : Value} {news : List Value} (h : SrcOf w k x m news) (o : Obj) : SrcOf (w.alloc o) k x m news := by
  obtain ⟨h1, h2, h3⟩ := h
  refine ⟨h1, h2, ?_⟩
  rcases h3 with h3 | ⟨ad, c, e, h3⟩
  · exact .inl h3
  · exact .inr ⟨ad, c, e, fun j u hj => (World.cell?_alloc_some _ _ _ (by rw [h3 j u hj]; rfl)).trans (h3 j u hj)⟩
theorem SrcOf.below {w w1 : World} {k m : Nat} {x : Value} {news : List Value} (h : SrcOf w k x m news) (hb : Below w.heap.size w w1) : SrcOf w1 k x m news := by
  obtain ⟨h1, h2, h3⟩ := h
  refine ⟨h1, h2, ?_⟩
  rcases h3 with h3 | ⟨ad, c, e, h3⟩
  · exact .inl h3
  · exact .inr ⟨ad, c, e, fun j u hj => (hb.cell (World.block_lt_of_cell? w _ (h3 j u hj))).trans (h3 j u hj)⟩
theorem SrcOf.drew {w : World} {k m : Nat} {x : Value} {news : List Value} (h : SrcOf w k x m news) : SrcOf w.drew k x m news := h
/-- 'append(make([]T, 0, len(x)+2), x...)': a row of its own. -/
theorem copy_row {P : Program} (w : World) (t ty e : TypeId) {z : Value} {k bytes : Nat} (ht : P.underlying t = some (.slice e)) (hinfo : (P.info? e).map (fun i => (i.zero, i.size, i.bytes)) = some (some z, k, bytes))
    (hk : 0 < k) (hb : bytes ≤ 100) (hzs : z.cells.size = k) {x : Value} {n : Nat} {news : List Value} (hx : SrcOf w k x n news) (hn : n ≤ 4000000) :
    ∃ o p c w4, (Instr.makeSlice t (.int .i64 0) (.int .i64 ((n : Int) + 2))).run P w = .ok (.slice (some ⟨w.heap.size, 0, none⟩) 0 (n + 2)) (w.alloc o) ∧
      (Builtin.append_ #[t, t] ty #[.slice (some ⟨w.heap.size, 0, none⟩) 0 (n + 2), x]).run P (w.alloc o) = .ok (.slice p n c) w4 ∧ w4.ownsRow w.heap.size e k (.slice p n c) n news ∧ Below w.heap.size w w4 := by
  obtain ⟨i, hi, hz, hsize, hby⟩ := info_parts hinfo
  have hbn : i.bytes * (n + 2) ≤ 100 * 4000002 := Nat.mul_le_mul (by omega) (by omega)
  have hbi : (i.bytes : Int) * ((n : Int) + 2) ≤ 281474976710656 := by
    have h : ((i.bytes * (n + 2) : Nat) : Int) ≤ 281474976710656 := by omega
    rw [Int.natCast_mul] at h
    simpa using h
  have hr := run_make (P := P) w t e i z ht hi hz .i64 .i64 0 ((n : Int) + 2) (Int.le_refl _) (by omega) hbi (by omega)
  have hc : ((n : Int) + 2).toNat = n + 2 := by omega
  simp only [Int.toNat_zero, hc] at hr
  have hm : n + 2 ≤ maxLen := by unfold maxLen; omega
  have hsz : (madeCells z.cells ((n + 2) * i.size)).size = (n + 2) * k := by rw [size_madeCells, hsize]
  have hrow := World.ownsRow_made (base := w.heap.size) (e := e) (size := k) w (madeCells z.cells ((n + 2) * i.size)) (n + 2) (Nat.le_refl _) hm hsz
  have hbb : (0 + n) * bytes ≤ 140737488355328 := by
    have : (0 + n) * bytes ≤ 4000000 * 100 := Nat.mul_le_mul (by omega) (by omega)
    omega
  obtain ⟨v', w4, r1, r2⟩ := run_append_row (P := P) (w.alloc (.cells (madeCells z.cells ((n + 2) * i.size)) e)) w.heap.size t ty e i z k bytes ht hi hz hsize hk hby hzs _ 0 [] hrow x n news (hx.alloc _) (by unfold maxLen; omega) hbb (by simp)
  have hown := r2.1
  rw [Nat.zero_add, List.nil_append] at hown
  obtain ⟨p, c, rfl⟩ := own_slice hown
  refine ⟨_, p, c, w4, hr, r1, hown, ?_⟩
  exact ((Below.refl _ _).alloc (Nat.le_refl _) _).grown r2.2.1 (by simp) (fun q hq => by simp [Value.ownBlock] at hq; omega)

/-- A copy under way: the script that is read at rb, the result's at rb + 1, the copy's head at rb + 2. -/
structure CopyI (w0 w : World) (rb : Nat) (sl : Array Value) (most : Int) (tv hv sv : Value) (V : Nat → Value) (S : Scr) : Prop where
  src : w.heap[rb]? = some (.cells sl 27 (0, 0))
  res : w.heap[rb + 1]? = some (.cells #[.slice none 0 0, .slice none 0 0, .slice none 0 0, .int .i64 0] 27 (0, 0))
  out : w.heap[rb + 2]? = some (.cells #[tv, hv, sv, .int .i64 most] 27 (0, 0))
  low : Below rb w0 w
  rows : RowsS w rb 62 58 tv hv sv V S
section
variable {w0 w w4 : World} {rb : Nat} {sl : Array Value} {most : Int} {tv hv sv v : Value} {V : Nat → Value} {S : Scr}
theorem CopyI.size (h : CopyI w0 w rb sl most tv hv sv V S) : rb + 3 ≤ w.heap.size := (Array.getElem?_eq_some_iff.1 h.out).1
theorem CopyI.below (h : CopyI w0 w rb sl most tv hv sv V S) (hb : Below w.heap.size w w4) : CopyI w0 w4 rb sl most tv hv sv V S :=
  ⟨(hb.block rb (by have := h.size; omega)).trans h.src, (hb.block (rb + 1) (by have := h.size; omega)).trans h.res, (hb.block (rb + 2) (by have := h.size; omega)).trans h.out, h.low.trans (hb.mono (by have := h.size; omega)), h.rows.below hb⟩
theorem CopyI.sch (h : CopyI w0 w rb sl most tv hv sv V S) (hb : Below w.heap.size w w4) {L : List Int} (hr : w4.ownsRow w.heap.size 3 1 v L.length (ncells L)) :
    CopyI w0 (w4.setCell ⟨rb + 2, 2, none⟩ v) rb sl most tv hv v V { S with sch := L } := by
  have h4 := h.below hb
  have hs := h.size
  have hq := own_base (N := rb) hr (by omega)
  have hr2 := own_head hq h4.out (grown_set _ _ 2 v) (by decide)
  have hh := h4.rows.head kindsC h4.out (grown_set _ _ 2 v)
  exact ⟨set_keep h4.src (by omega), set_keep h4.res (by omega), (set_at h4.out 2 v).trans rfl, h4.low.setCell (by simp) _, ⟨hh.tops, hr2, hh.thrs, hh.each, hh.apart⟩⟩
theorem CopyI.tops (h : CopyI w0 w rb sl most tv hv sv V S) (hb : Below w.heap.size w w4) {L : List Top} (hr : w4.ownsRow w.heap.size 62 2 v L.length (tcells L)) :
    CopyI w0 (w4.setCell ⟨rb + 2, 0, none⟩ v) rb sl most v hv sv V { S with tops := L } := by
  have h4 := h.below hb
  have hs := h.size
  have hq := own_base (N := rb) hr (by omega)
  have hr2 := own_head hq h4.out (grown_set _ _ 0 v) (by decide)
  have hh := h4.rows.head kindsC h4.out (grown_set _ _ 0 v)
  exact ⟨set_keep h4.src (by omega), set_keep h4.res (by omega), (set_at h4.out 0 v).trans rfl, h4.low.setCell (by simp) _, ⟨hr2, hh.sch, hh.thrs, hh.each, hh.apart⟩⟩
theorem CopyI.fresh (h : CopyI w0 w rb sl most tv hv sv V S) (hb : Below w.heap.size w w4) (hr : w4.ownsRow w.heap.size 58 2 v 0 []) :
    CopyI w0 (w4.setCell ⟨rb + 2, 1, none⟩ v) rb sl most tv v sv V { S with thrs := [] } := by
  have h4 := h.below hb
  have hs := h.size
  have hq := own_base (N := rb) hr (by omega)
  have hr2 := own_head hq h4.out (grown_set _ _ 1 v) (by decide)
  have hh := h4.rows.head kindsC h4.out (grown_set _ _ 1 v)
  exact ⟨set_keep h4.src (by omega), set_keep h4.res (by omega), (set_at h4.out 1 v).trans rfl, h4.low.setCell (by simp) _, ⟨hh.tops, hh.sch, hr2, fun i hi => by simp at hi, fun i j hi => by simp at hi⟩⟩
theorem CopyI.thread (h : CopyI w0 w rb sl most tv hv sv V S) {t : Thr} {v1 : Value} (hr : w.ownsRow rb 65 4 v1 t.ops.length (ocells t.ops)) (hne : ∀ i, i < S.thrs.length → (V i).ownBlock = none ∨ (V i).ownBlock ≠ v1.ownBlock)
    {o : Obj} {v' : Value} {w1 : World} (ha : Appended (w.alloc o) rb 58 2 hv S.thrs.length 1 (hcells S.thrs V ++ hcell t v1) v' w1) :
    w1.cell? ⟨rb + 2, 1, none⟩ = some hv ∧ w1.frozen? ⟨rb + 2, 1, none⟩ = false ∧ CopyI w0 (w1.setCell ⟨rb + 2, 1, none⟩ v') rb sl most tv v' sv (fun i => if i = S.thrs.length then v1 else V i) { S with thrs := S.thrs ++ [t] } := by
  have ho := h.below ((Below.refl _ _).alloc (Nat.le_refl _) o)
  have hs := ho.size
  obtain ⟨h1, h2, _⟩ := ha
  have hro := ho.rows
  have hrv : (w.alloc o).ownsRow rb 65 4 v1 t.ops.length (ocells t.ops) := hr.alloc o
  have hd : w1.heap[rb + 2]? = _ := head_other hro.thrs ho.out h2 (by decide)
  have hsrc : w1.heap[rb]? = _ := head_other hro.thrs ho.src h2 (by decide)
  have hres : w1.heap[rb + 1]? = _ := head_other hro.thrs ho.res h2 (by decide)
  have hget : ∀ i, i < S.thrs.length → (S.thrs ++ [t]).getD i default = S.thrs.getD i default := fun i hi => getD_app _ _ _ _ hi
  have hrow : RowsS w1 rb 62 58 tv v' sv (fun i => if i = S.thrs.length then v1 else V i) { S with thrs := S.thrs ++ [t] } := by
    refine ⟨own_other hro.tops hro.thrs h2 (by decide), own_other hro.sch hro.thrs h2 (by decide), ?_, fun i hi => ?_, fun i j hi hj hn => ?_⟩
    · rw [hcells_snoc]
      simpa using h1
    · simp only [List.length_append, List.length_singleton] at hi
      by_cases e : i = S.thrs.length
      · subst e
        simp only [if_true]
        rw [getD_last]
        exact own_other hrv hro.thrs h2 (by decide)
      · simp only [if_neg e]
        rw [hget i (by omega)]
        exact own_other (hro.each i (by omega)) hro.thrs h2 (by decide)
    · simp only [List.length_append, List.length_singleton] at hi hj
      by_cases e : i = S.thrs.length
      · have e2 : j ≠ S.thrs.length := by omega
        simp only [if_pos e, if_neg e2]
        cases hv1 : v1.ownBlock with
        | none => exact .inl rfl
        | some q =>
          right
          intro h7
          rcases hne j (by omega) with h8 | h8
          · rw [h8] at h7; cases h7
          · exact h8 (by rw [hv1]; exact h7.symm)
      · by_cases e2 : j = S.thrs.length
        · simp only [if_neg e, if_pos e2]
          exact hne i (by omega)
        · simp only [if_neg e, if_neg e2]
          exact hro.apart i j (by omega) (by omega) hn
  refine ⟨cell_of hd 1, free_of hd 1, set_keep hsrc (by omega), set_keep hres (by omega), (set_at hd 1 v').trans rfl, ?_, hrow.head kindsC hd (grown_set _ _ _ _)⟩
  exact (ho.low.grown h2 (by omega) (fun q hq => (hro.thrs.lt q hq).1)).setCell (by simp) _
end
/-- What is made later lies apart from what there was. -/
theorem CopyI.apart {w0 w w4 : World} {rb : Nat} {sl : Array Value} {most : Int} {tv hv sv v1 : Value} {V : Nat → Value} {S : Scr} (h : CopyI w0 w rb sl most tv hv sv V S) {B e k n : Nat} {xs : List Value} (hB : w.heap.size ≤ B) (hr : w4.ownsRow B e k v1 n xs) (i : Nat) (hi : i < S.thrs.length) :
    (V i).ownBlock = none ∨ (V i).ownBlock ≠ v1.ownBlock := by
  cases hv : (V i).ownBlock with
  | none => exact .inl rfl
  | some q =>
    right
    intro h7
    have h1 := (h.rows.each i hi).lt q hv
    have h2 := hr.lt q h7.symm
    omega
end Go.Proofs.YtdmhlhoimaeacaaDoor
