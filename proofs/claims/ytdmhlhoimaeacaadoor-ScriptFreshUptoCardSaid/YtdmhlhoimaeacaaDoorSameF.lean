/-
  A copy that is changed at one place: still a script, another one. No walk.
-/
import Derived.Test.YtdmhlhoimaeacaaDoorPrintsL
namespace Go.Proofs.YtdmhlhoimaeacaaDoor
open Go.RowKit
set_option linter.unusedVariables false

/-- A copy: its head at xb. -/
structure Cpy (w : World) (N xb : Nat) (tv hv sv : Value) (V : Nat → Value) (S : Scr) : Prop where
  head : w.heap[xb]? = some (.cells #[tv, hv, sv, .int .i64 S.most] 27 (0, 0))
  rows : RowsS w N 62 58 tv hv sv V S
  gN : N ≤ xb
section
variable {w w1 : World} {N xb : Nat} {tv hv sv v' : Value} {V : Nat → Value} {S : Scr} {o : Obj}
theorem Cpy.lt (h : Cpy w N xb tv hv sv V S) : xb < w.heap.size := (Array.getElem?_eq_some_iff.1 h.head).1
theorem Cpy.below (h : Cpy w N xb tv hv sv V S) (hb : Below w.heap.size w w1) : Cpy w1 N xb tv hv sv V S :=
  ⟨(hb.block xb h.lt).trans h.head, h.rows.below hb, h.gN⟩
theorem Cpy.alloc (h : Cpy w N xb tv hv sv V S) (o : Obj) : Cpy (w.alloc o) N xb tv hv sv V S := h.below ((Below.refl _ _).alloc (Nat.le_refl _) o)
theorem Cpy.most (h : Cpy w N xb tv hv sv V S) (n : Int) : Cpy (w.setCell ⟨xb, 3, none⟩ (.int .i64 n)) N xb tv hv sv V { S with most := n } ∧ Below N w (w.setCell ⟨xb, 3, none⟩ (.int .i64 n)) :=
  ⟨⟨by rw [set_at h.head]; rfl, ((h.rows.head kindsC h.head (grown_set _ _ _ _)).cast rfl rfl rfl), h.gN⟩, (Below.refl N w).setCell h.gN _⟩
theorem Cpy.topic (h : Cpy w N xb tv hv sv V S) {t : Top} (ha : Appended (w.alloc o) N 62 2 tv S.tops.length 1 (tcells S.tops ++ tcell t) v' w1) :
    w1.cell? ⟨xb, 0, none⟩ = some tv ∧ w1.frozen? ⟨xb, 0, none⟩ = false ∧ Cpy (w1.setCell ⟨xb, 0, none⟩ v') N xb v' hv sv V { S with tops := S.tops ++ [t] } ∧ Below N w (w1.setCell ⟨xb, 0, none⟩ v') := by
  have ho := h.alloc o
  obtain ⟨h1, h2, _⟩ := ha
  have hr := ho.rows
  have hd : w1.heap[xb]? = _ := head_other hr.tops ho.head h2 (by decide)
  have hrow : RowsS w1 N 62 58 v' hv sv V { S with tops := S.tops ++ [t] } := by
    refine ⟨by rw [tcells_snoc]; simpa using h1, own_other hr.sch hr.tops h2 (by decide), own_other hr.thrs hr.tops h2 (by decide), fun i hi => own_other (hr.each i hi) hr.tops h2 (by decide), hr.apart⟩
  have hn : N ≤ w.heap.size := Nat.le_trans h.gN (Nat.le_of_lt h.lt)
  refine ⟨cell_of hd 0, free_of hd 0, ⟨?_, hrow.head kindsC hd (grown_set _ _ _ _), h.gN⟩, ?_⟩
  · rw [set_at hd]; rfl
  · exact (((Below.refl N w).alloc hn o).grown h2 (by simp; omega) (fun q hq => (hr.tops.lt q hq).1)).setCell h.gN _
theorem Cpy.number (h : Cpy w N xb tv hv sv V S) {n : Int} (ha : Appended (w.alloc o) N 3 1 sv S.sch.length 1 (ncells S.sch ++ [.int .i64 n]) v' w1) :
    w1.cell? ⟨xb, 2, none⟩ = some sv ∧ w1.frozen? ⟨xb, 2, none⟩ = false ∧ Cpy (w1.setCell ⟨xb, 2, none⟩ v') N xb tv hv v' V { S with sch := S.sch ++ [n] } ∧ Below N w (w1.setCell ⟨xb, 2, none⟩ v') := by
  have ho := h.alloc o
  obtain ⟨h1, h2, _⟩ := ha
  have hr := ho.rows
  have hd : w1.heap[xb]? = _ := head_other hr.sch ho.head h2 (by decide)
  have hrow : RowsS w1 N 62 58 tv hv v' V { S with sch := S.sch ++ [n] } := by
    refine ⟨own_other hr.tops hr.sch h2 (by decide), by rw [ncells_snoc]; simpa using h1, own_other hr.thrs hr.sch h2 (by decide), fun i hi => own_other (hr.each i hi) hr.sch h2 (by decide), hr.apart⟩
  have hn : N ≤ w.heap.size := Nat.le_trans h.gN (Nat.le_of_lt h.lt)
  refine ⟨cell_of hd 2, free_of hd 2, ⟨?_, hrow.head kindsC hd (grown_set _ _ _ _), h.gN⟩, ?_⟩
  · rw [set_at hd]; rfl
  · exact (((Below.refl N w).alloc hn o).grown h2 (by simp; omega) (fun q hq => (hr.sch.lt q hq).1)).setCell h.gN _
theorem Cpy.thread (h : Cpy w N xb tv hv sv V S) {n : Word} (ha : Appended (w.alloc o) N 58 2 hv S.thrs.length 1 (hcells S.thrs V ++ hcell ⟨n, []⟩ (.slice none 0 0)) v' w1) :
    w1.cell? ⟨xb, 1, none⟩ = some hv ∧ w1.frozen? ⟨xb, 1, none⟩ = false ∧ Cpy (w1.setCell ⟨xb, 1, none⟩ v') N xb tv v' sv (fun i => if i = S.thrs.length then .slice none 0 0 else V i) { S with thrs := S.thrs ++ [⟨n, []⟩] } ∧ Below N w (w1.setCell ⟨xb, 1, none⟩ v') := by
  have ho := h.alloc o
  obtain ⟨h1, h2, _⟩ := ha
  have hr := ho.rows
  have hd : w1.heap[xb]? = _ := head_other hr.thrs ho.head h2 (by decide)
  have hget : ∀ i, i < S.thrs.length → (S.thrs ++ [(⟨n, []⟩ : Thr)]).getD i default = S.thrs.getD i default := fun i hi => getD_app _ _ _ _ hi
  have hrow : RowsS w1 N 62 58 tv v' sv (fun i => if i = S.thrs.length then .slice none 0 0 else V i) { S with thrs := S.thrs ++ [⟨n, []⟩] } := by
    refine ⟨own_other hr.tops hr.thrs h2 (by decide), own_other hr.sch hr.thrs h2 (by decide), by rw [hcells_snoc]; simpa using h1, fun i hi => ?_, fun i j hi hj hne => ?_⟩
    · simp only [List.length_append, List.length_singleton] at hi
      by_cases e : i = S.thrs.length
      · subst e
        simp only [if_true]
        rw [getD_last]
        exact World.ownsRow_nil _ _ _ _
      · simp only [if_neg e]
        rw [hget i (by omega)]
        exact own_other (hr.each i (by omega)) hr.thrs h2 (by decide)
    · simp only [List.length_append, List.length_singleton] at hi hj
      by_cases e : i = S.thrs.length
      · left; simp [e, Value.ownBlock]
      · by_cases e2 : j = S.thrs.length
        · simp only [if_neg e, if_pos e2]
          cases (V i).ownBlock with
          | none => exact .inl rfl
          | some q => right; simp [Value.ownBlock]
        · simp only [if_neg e, if_neg e2]
          exact hr.apart i j (by omega) (by omega) hne
  have hn : N ≤ w.heap.size := Nat.le_trans h.gN (Nat.le_of_lt h.lt)
  refine ⟨cell_of hd 1, free_of hd 1, ⟨?_, hrow.head kindsC hd (grown_set _ _ _ _), h.gN⟩, ?_⟩
  · rw [set_at hd]; rfl
  · exact (((Below.refl N w).alloc hn o).grown h2 (by simp; omega) (fun q hq => (hr.thrs.lt q hq).1)).setCell h.gN _
/-- One thread's operations with one more. -/
def withOp (S : Scr) (k : Nat) (p : Opn) : Scr := { S with thrs := S.thrs.set k { (S.thrs.getD k default) with ops := (S.thrs.getD k default).ops ++ [p] } }
theorem withOp_len (S : Scr) (k : Nat) (p : Opn) : (withOp S k p).thrs.length = S.thrs.length := by simp [withOp]
theorem withOp_get {S : Scr} {k : Nat} (hk : k < S.thrs.length) (p : Opn) (i : Nat) (hi : i < S.thrs.length) : (withOp S k p).thrs.getD i default = if i = k then { (S.thrs.getD k default) with ops := (S.thrs.getD k default).ops ++ [p] } else S.thrs.getD i default := by
  unfold withOp
  simp only [List.getD]
  rw [List.getElem?_set]
  by_cases e : k = i
  · subst e
    simp [hk]
  · rw [if_neg e, if_neg (fun e2 => e e2.symm)]
theorem withOp_ne {S : Scr} {k : Nat} (hk : k < S.thrs.length) (p : Opn) : withOp S k p ≠ S := by
  intro e
  have h1 := withOp_get hk p k hk
  rw [e, if_pos rfl] at h1
  have h2 := congrArg (fun t : Thr => t.ops.length) h1
  simp at h2
theorem hcells_withOp {S : Scr} {k : Nat} (hk : k < S.thrs.length) (V : Nat → Value) (v' : Value) (p : Opn) : (hcells S.thrs V).set (k * 2 + 1) v' = hcells (withOp S k p).thrs (fun i => if i = k then v' else V i) := by
  unfold hcells
  rw [withOp_len, flatN_set (f := fun i => hcell (S.thrs.getD i default) (V i)) (g := fun i => hcell (S.thrs.getD i default) (if i = k then v' else V i)) (k := 2) (fun _ => rfl) k 1 v' (by omega) (by simp [hcell]) (fun i hi => by simp only [if_neg hi]) _ (by omega)]
  refine flatN_congr _ fun i hi => ?_
  rw [withOp_get hk p i hi]
  by_cases e : i = k
  · subst e
    simp only [if_true]
    rfl
  · simp only [if_neg e]
theorem Cpy.op {hb tc k : Nat} (h : Cpy w N xb tv (.slice (some ⟨hb, 0, none⟩) S.thrs.length tc) sv V S) {p : Opn} (hk : k < S.thrs.length)
    (ha : Appended (w.alloc o) N 65 4 (V k) (S.thrs.getD k default).ops.length 1 (ocells (S.thrs.getD k default).ops ++ ocell p) v' w1) :
    w1.cell? ⟨hb, k * 2 + 1, none⟩ = some (V k) ∧ w1.frozen? ⟨hb, k * 2 + 1, none⟩ = false ∧
    Cpy (w1.setCell ⟨hb, k * 2 + 1, none⟩ v') N xb tv (.slice (some ⟨hb, 0, none⟩) S.thrs.length tc) sv (fun i => if i = k then v' else V i) (withOp S k p) ∧ Below N w (w1.setCell ⟨hb, k * 2 + 1, none⟩ v') := by
  have ho := h.alloc o
  obtain ⟨h1, h2, hA⟩ := ha
  have hr := ho.rows
  have hrow := hr.each k hk
  have hd : w1.heap[xb]? = _ := head_other hrow ho.head h2 (by decide)
  have htops := own_other hr.tops hrow h2 (by decide)
  have hsch := own_other hr.sch hrow h2 (by decide)
  have hthr := own_other hr.thrs hrow h2 (by decide)
  have heach : ∀ i, i < S.thrs.length → i ≠ k → w1.ownsRow N 65 4 (V i) (S.thrs.getD i default).ops.length (ocells (S.thrs.getD i default).ops) := fun i hi hne => (hr.each i hi).kept h2 (hr.apart i k hi hk hne)
  obtain ⟨hst, hgr⟩ := hthr.stored (k * 2 + 1) v'
  have hs := h2.size
  have hn : N ≤ w.heap.size := Nat.le_trans h.gN (Nat.le_of_lt h.lt)
  have hgb : xb ≠ hb := by
    intro e
    obtain ⟨c, fz, hx⟩ := Lib.ownsRow_kind hthr hb rfl
    rw [← e, hd] at hx
    cases hx
  have hcl : w1.cell? ⟨hb, k * 2 + 1, none⟩ = some (V k) := by
    rw [hthr.cellAt _ (by omega), hcells_get _ _ _ _ (by omega) (by omega)]
    rfl
  refine ⟨hcl, hthr.frozenAt _, ⟨?_, ⟨?_, ?_, ?_, ?_, ?_⟩, h.gN⟩, ?_⟩
  · exact (hgr.block xb (Array.getElem?_eq_some_iff.1 hd).1 (by simp; exact hgb)).trans hd
  · exact htops.kept hgr (own_apart htops hthr (by decide))
  · exact hsch.kept hgr (own_apart hsch hthr (by decide))
  · rw [withOp_len]
    rw [← hcells_withOp hk V v' p]
    exact hst
  · intro i hi
    rw [withOp_len] at hi
    rw [withOp_get hk p i hi]
    by_cases e : i = k
    · subst e
      simp only [if_true]
      rw [ocells_snoc]
      have hv := h1
      rw [List.length_append, List.length_singleton]
      exact hv.kept hgr (own_apart hv hthr (by decide))
    · simp only [if_neg e]
      exact (heach i hi e).kept hgr (own_apart (heach i hi e) hthr (by decide))
  · intro i j hi hj hne
    rw [withOp_len] at hi hj
    have hnew : ∀ q, v'.ownBlock = some q → ∀ j, j < S.thrs.length → j ≠ k → (V j).ownBlock ≠ some q := fun q hq j hj hjL hjq => by
      have hlt := (ho.rows.each j hj).lt q hjq
      rcases hA with ⟨e, _⟩ | ⟨g', cap, e, _, h5⟩
      · rw [e] at hq; cases hq
      · rw [e] at hq
        cases hq
        rcases h5 with h5 | h5
        · rcases hr.apart j k hj hk hjL with h6 | h6
          · rw [h6] at hjq; cases hjq
          · exact h6 (by rw [hjq, h5])
        · have := hlt.2
          simp only at this
          omega
    by_cases e : i = k
    · by_cases e2 : j = k
      · omega
      · simp only [if_pos e, if_neg e2]
        cases hv : v'.ownBlock with
        | none => exact .inl rfl
        | some q => right; intro h7; exact hnew q hv j hj e2 h7.symm
    · by_cases e2 : j = k
      · simp only [if_neg e, if_pos e2]
        cases hv : (V i).ownBlock with
        | none => exact .inl rfl
        | some q => right; intro h7; exact hnew q h7.symm i hi e hv
      · simp only [if_neg e, if_neg e2]
        exact hr.apart i j hi hj hne
  · have hhb : N ≤ hb := (hthr.lt hb rfl).1
    exact (((Below.refl N w).alloc hn o).grown h2 (by simp; omega) (fun q hq => (hrow.lt q hq).1)).setCell hhb _
end
end Go.Proofs.YtdmhlhoimaeacaaDoor
