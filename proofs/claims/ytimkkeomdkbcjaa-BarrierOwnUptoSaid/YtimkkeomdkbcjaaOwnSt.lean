/-
  The memory of BarrierOwn while it lays its sources: plain laws on worlds.
-/
import Derived.Test.YtimkkeomdkbcjaaCount
namespace Go.Proofs.Ytimkkeomdkbcjaa
open Go.RowKit
set_option linter.unusedVariables false

theorem info27 : (Try.prog.info? 27).map (fun i => (i.zero, i.size, i.bytes)) = some (some (.pointer none), 1, 8) := by kernel_rfl

def ptrs (r : Nat → Nat) (j : Nat) : List Value := (List.range j).map fun i => .pointer (some ⟨r i, 0, none⟩)
def behL (r : Nat → Nat) : Nat → List Value
  | 0 => []
  | j + 1 => behL r j ++ [ptrV (r j), .nilIface]

theorem ptrs_succ (r : Nat → Nat) (j : Nat) : ptrs r (j + 1) = ptrs r j ++ [.pointer (some ⟨r j, 0, none⟩)] := by
  simp [ptrs, List.range_succ]
theorem behL_length (r : Nat → Nat) : ∀ j, (behL r j).length = 2 * j
  | 0 => rfl
  | j + 1 => by simp [behL, behL_length r j]; omega
theorem ptrs_congr {r r' : Nat → Nat} {j : Nat} (h : ∀ i, i < j → r i = r' i) : ptrs r j = ptrs r' j := by
  unfold ptrs
  refine List.map_congr_left fun i hi => ?_
  rw [h i (List.mem_range.1 hi)]
theorem behL_congr {r r' : Nat → Nat} : ∀ {j : Nat}, (∀ i, i < j → r i = r' i) → behL r j = behL r' j
  | 0, _ => rfl
  | j + 1, h => by rw [behL, behL, behL_congr (fun i hi => h i (by omega)), h j (by omega)]
theorem srcs_behL (r : Nat → Nat) : ∀ j, srcs (behL r j) = (List.range j).map fun i => ptrV (r i)
  | 0 => rfl
  | j + 1 => by
    have : srcs (behL r (j + 1)) = srcs (behL r j) ++ [ptrV (r j)] := by simp only [behL, srcs, List.filter_append]; rfl
    rw [this, srcs_behL r j, List.range_succ, List.map_append]; rfl
theorem behL_srcV (r : Nat → Nat) : ∀ j, ∀ x ∈ behL r j, SrcV x
  | 0, x, h => by cases h
  | j + 1, x, h => by
    rcases List.mem_append.1 h with h | h
    · exact behL_srcV r j x h
    · simp at h
      rcases h with rfl | rfl
      · exact .inr ⟨_, rfl⟩
      · exact .inl rfl

structure OwnSt (w0 : World) (N j : Nat) (r : Nat → Nat) (v : Nat → Value) (LL : Nat → List Int) (vo vb : Value) (wr : World) : Prop where
  own : wr.ownsRow N 27 1 vo j (ptrs r j)
  beh : wr.ownsRow N 32 1 vb (2 * j) (behL r j)
  src : ∀ i, i < j → wr.heap[r i]? = some (.cells #[v i, .int .i64 0] 30 (0, 0))
  lst : ∀ i, i < j → wr.ownsRow N 2 1 (v i) (LL i).length ((LL i).map (Value.int .i64))
  small : ∀ i, i < j → (LL i).length ≤ 2000000 ∧ ∀ x ∈ LL i, 0 ≤ x ∧ x ≤ 100000000
  inj : ∀ i k, i < j → k < j → r i = r k → i = k
  nr : ∀ i, i < j → N ≤ r i
  low : Below N w0 wr
  nw : N ≤ wr.heap.size

/-- What is owned stays owned in a world that is as this one below the block where a round began. -/
theorem own_below {w w' : World} {N e n : Nat} {v : Value} {xs : List Value} (h : w.ownsRow N e 1 v n xs) (hb : Below w.heap.size w w') : w'.ownsRow N e 1 v n xs := by
  refine ⟨h.1, ?_⟩
  rcases h.2 with hn | ⟨g, cap, cur, rfl, h1, h2, h3⟩
  · exact .inl hn
  · exact .inr ⟨g, cap, cur, rfl, h1, (hb.block g (Array.getElem?_eq_some_iff.1 h2).1).trans h2, h3⟩

theorem OwnSt.below {w0 wr w1 : World} {N j : Nat} {r : Nat → Nat} {v : Nat → Value} {LL : Nat → List Int} {vo vb : Value} (h : OwnSt w0 N j r v LL vo vb wr) (hb : Below wr.heap.size wr w1) : OwnSt w0 N j r v LL vo vb w1 :=
  ⟨own_below h.own hb, own_below h.beh hb, fun i hi => (hb.block _ (Array.getElem?_eq_some_iff.1 (h.src i hi)).1).trans (h.src i hi), fun i hi => own_below (h.lst i hi) hb, h.small, h.inj, h.nr, h.low.trans (hb.mono h.nw), Nat.le_trans h.nw hb.size⟩

/-- Rows of other element types stay behind an append to a row. -/
theorem own_appended {w w1 : World} {N e e' n n' m : Nat} {v v' u : Value} {xs ys : List Value} {cs : Array Value} {T : Nat} (h : w.ownsRow N e 1 u n xs) (ho : w.ownsRow N e' 1 v n' ys) (hne : e ≠ e')
    (hg : (w.alloc (.cells cs T)).grownBy w1 v.ownBlock) : w1.ownsRow N e 1 u n xs := by
  refine (h.alloc _).kept hg ?_
  rcases h.2 with ⟨rfl, _⟩ | ⟨g, cap, cur, rfl, _, hgg, _⟩
  · exact .inl rfl
  · right
    exact own_other ho hgg hne
theorem block_appended {w w1 : World} {N e' n' b : Nat} {v : Value} {ys : List Value} {cs c0 : Array Value} {T T0 : Nat} (h : w.heap[b]? = some (.cells c0 T0 (0, 0))) (ho : w.ownsRow N e' 1 v n' ys) (hne : T0 ≠ e')
    (hg : (w.alloc (.cells cs T)).grownBy w1 v.ownBlock) : w1.heap[b]? = some (.cells c0 T0 (0, 0)) := by
  have hlt := (Array.getElem?_eq_some_iff.1 h).1
  rw [hg.block b (by simp; omega) (own_other ho h hne), Below.heap_alloc _ _ _ hlt]
  exact h

/-- The two appends at a round's end: the new source at own's end and at behind's. -/
theorem OwnSt.add {w0 wr w1 w2 : World} {N j R : Nat} {r : Nat → Nat} {v : Nat → Value} {LL : Nat → List Int} {vo vb vo' vb' vR : Value} {ls : List Int} (h : OwnSt w0 N j r v LL vo vb wr)
    (hR : wr.heap[R]? = some (.cells #[vR, .int .i64 0] 30 (0, 0))) (hl : wr.ownsRow N 2 1 vR ls.length (ls.map (Value.int .i64))) (hls : ls.length ≤ 2000000 ∧ ∀ x ∈ ls, 0 ≤ x ∧ x ≤ 100000000) (hnew : ∀ i, i < j → r i ≠ R) (hNR : N ≤ R)
    (h1 : Appended (wr.alloc (.cells #[.pointer (some ⟨R, 0, none⟩)] 27)) N 27 vo j 1 (ptrs r j ++ [.pointer (some ⟨R, 0, none⟩)]) vo' w1)
    (h2 : Appended (w1.alloc (.cells #[ptrV R, .nilIface] 32)) N 32 vb (2 * j) 2 (behL r j ++ [ptrV R, .nilIface]) vb' w2) :
    OwnSt w0 N (j + 1) (fun i => if i = j then R else r i) (fun i => if i = j then vR else v i) (fun i => if i = j then ls else LL i) vo' vb' w2 := by
  have beh1 : w1.ownsRow N 32 1 vb (2 * j) (behL r j) := own_appended (m := 0) (v' := vb) h.beh h.own (by decide) h1.2.1
  have own1 : w1.ownsRow N 27 1 vo' (j + 1) (ptrs r j ++ [.pointer (some ⟨R, 0, none⟩)]) := h1.1
  have hr' : ∀ i, i < j → (fun i => if i = j then R else r i) i = r i := fun i hi => by simp [show i ≠ j by omega]
  refine ⟨?_, ?_, ?_, ?_, ?_, ?_, ?_, ?_, ?_⟩
  · have := own_appended (m := 0) (v' := vb) own1 beh1 (by decide) h2.2.1
    rw [ptrs_succ, ptrs_congr hr']
    simpa using this
  · have := h2.1
    rw [behL, behL_congr hr']
    simpa [Nat.mul_add] using this
  · intro i hi
    by_cases e : i = j
    · subst e
      simp only [if_true]
      exact block_appended (block_appended hR h.own (by decide) h1.2.1) beh1 (by decide) h2.2.1
    · simp only [e, if_false]
      exact block_appended (block_appended (h.src i (by omega)) h.own (by decide) h1.2.1) beh1 (by decide) h2.2.1
  · intro i hi
    by_cases e : i = j
    · subst e
      simp only [if_true]
      exact own_appended (m := 0) (v' := vb) (own_appended (m := 0) (v' := vb) hl h.own (by decide) h1.2.1) beh1 (by decide) h2.2.1
    · simp only [e, if_false]
      exact own_appended (m := 0) (v' := vb) (own_appended (m := 0) (v' := vb) (h.lst i (by omega)) h.own (by decide) h1.2.1) beh1 (by decide) h2.2.1
  · intro i hi
    by_cases e : i = j
    · simp only [e, if_true]; exact hls
    · simp only [e, if_false]; exact h.small i (by omega)
  · intro i k hi hk he
    by_cases e1 : i = j <;> by_cases e2 : k = j
    · omega
    · simp only [e1, e2, if_true, if_false] at he
      exact absurd he.symm (hnew k (by omega))
    · simp only [e1, e2, if_true, if_false] at he
      exact absurd he (hnew i (by omega))
    · simp only [e1, e2, if_false] at he
      exact h.inj i k (by omega) (by omega) he
  · intro i hi
    by_cases e : i = j
    · simp only [e, if_true]; exact hNR
    · simp only [e, if_false]; exact h.nr i (by omega)
  · have a1 := (h.low.alloc h.nw (.cells #[.pointer (some ⟨R, 0, none⟩)] 27)).grown h1.2.1 (by have := h.nw; simp; omega) (fun k hk => (h.own.lt k hk).1)
    have s1 : N ≤ w1.heap.size := by have := h1.2.1.size; have := h.nw; simp at *; omega
    exact (a1.alloc s1 _).grown h2.2.1 (by simp; omega) (fun k hk => (beh1.lt k hk).1)
  · have s1 := h1.2.1.size
    have s2 := h2.2.1.size
    have := h.nw
    simp at s1 s2
    omega
end Go.Proofs.Ytimkkeomdkbcjaa
