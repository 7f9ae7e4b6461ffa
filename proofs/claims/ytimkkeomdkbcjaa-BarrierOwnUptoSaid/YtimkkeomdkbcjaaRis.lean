/-
  A source of the statement's own while its list grows: its block, and the row of its list. No walk.
-/
import Derived.Test.YtimkkeomdkbcjaaRaised
import Derived.Test.YtimkkeomdkbcjaaWaits
namespace Go.Proofs.Ytimkkeomdkbcjaa
open Go.RowKit
set_option linter.unusedVariables false

theorem info2 : (Try.prog.info? 2).map (fun i => (i.zero, i.size, i.bytes)) = some (some (.int .i64 0), 1, 8) := by kernel_rfl

structure Ris (w0 : World) (N R : Nat) (zs : List Int) (v : Value) (wr : World) : Prop where
  blk : wr.heap[R]? = some (.cells #[v, .int .i64 0] 30 (0, 0))
  own : wr.ownsRow N 2 1 v zs.length (zs.map (Value.int .i64))
  low : Below N w0 wr
  nr : N ≤ R
  nw : N ≤ wr.heap.size

theorem own_other {w : World} {N e n T b : Nat} {v : Value} {xs : List Value} {cs : Array Value} (h : w.ownsRow N e 1 v n xs) (hb : w.heap[b]? = some (.cells cs T (0, 0))) (ht : T ≠ e) : some b ≠ v.ownBlock := by
  intro e'
  rcases h.2 with ⟨rfl, _⟩ | ⟨g, cap, cur, rfl, _, hgg, _⟩
  · simp [Value.ownBlock] at e'
  · simp [Value.ownBlock] at e'
    subst e'
    rw [hb] at hgg; simp at hgg
    exact ht hgg.2

theorem Ris.add {w0 wr w1 : World} {N R : Nat} {zs : List Int} {v v' : Value} {x : Int} (h : Ris w0 N R zs v wr)
    (ha : Appended (wr.alloc (.cells #[.int .i64 x] 2)) N 2 v zs.length 1 (zs.map (Value.int .i64) ++ [.int .i64 x]) v' w1) :
    ∃ g cap, v' = .slice (some ⟨g, 0, none⟩) (zs.length + 1) cap ∧ w1.cell? ⟨R, 0, none⟩ = some v ∧ w1.frozen? ⟨R, 0, none⟩ = false ∧ Ris w0 N R (zs ++ [x]) v' (w1.setCell ⟨R, 0, none⟩ v') ∧
      (∀ k, k < wr.heap.size → k ≠ R → some k ≠ v.ownBlock → (w1.setCell ⟨R, 0, none⟩ v').heap[k]? = wr.heap[k]?) ∧ wr.heap.size ≤ (w1.setCell ⟨R, 0, none⟩ v').heap.size ∧ (v'.ownBlock = v.ownBlock ∨ ∃ g', v'.ownBlock = some g' ∧ wr.heap.size ≤ g') := by
  obtain ⟨hown1, hg1, hsh⟩ := ha
  have hlt : R < wr.heap.size := (Array.getElem?_eq_some_iff.1 h.blk).1
  have hvb := own_other h.own h.blk (by decide)
  have h1 : w1.heap[R]? = some (.cells #[v, .int .i64 0] 30 (0, 0)) := by
    rw [hg1.block R (by simp; omega) hvb, Below.heap_alloc _ _ _ hlt]; exact h.blk
  have h2 := set_at h1 0 v'
  simp at h2
  have hsz : wr.heap.size ≤ w1.heap.size := by have := hg1.size; simp at this; omega
  rcases hsh with ⟨_, _, h0, _⟩ | ⟨g, cap, rfl, hcap, hwhere⟩
  · cases h0
  · refine ⟨g, cap, rfl, by rw [cell_of h1]; rfl, free_of h1 0, ⟨h2, ?_, ?_, h.nr, ?_⟩, ?_, ?_, ?_⟩
    · have hn := own_other hown1 h1 (by decide)
      have := ownsRow_setCell_other hown1 (a := ⟨R, 0, none⟩) (fun e => hn e.symm) (Value.slice (some ⟨g, 0, none⟩) (zs.length + 1) cap)
      simpa using this
    · exact ((h.low.alloc h.nw _).grown hg1 (by have := h.nw; simp; omega) (fun k hk => (h.own.lt k hk).1)).setCell h.nr _
    · have := h.nw; simp [World.setCell]; omega
    · intro k hk hR hv
      rw [set_off hR, hg1.block k (by simp; omega) hv, Below.heap_alloc _ _ _ hk]
    · simp [World.setCell]; omega
    · rcases hwhere with hw | hw
      · left; rw [hw]; rfl
      · right; exact ⟨g, rfl, by simp at hw; omega⟩

/-- The list of a source as the barrier's memory wants it. -/
theorem Ris.list {w0 wr : World} {N R : Nat} {zs : List Int} {v : Value} (h : Ris w0 N R zs v wr) :
    ∃ ao c, v = .slice ao zs.length c ∧ (zs ≠ [] → ∃ g cs, ao = some ⟨g, 0, none⟩ ∧ wr.heap[g]? = some (.cells cs 2 (0, 0)) ∧ ∀ j, j < zs.length → cs[j]? = some (.int .i64 (zs.getD j 0))) := by
  rcases h.own.2 with ⟨rfl, h0⟩ | ⟨g, cap, cur, rfl, _, hgg, hc, hcm, hcs, htk⟩
  · exact ⟨none, 0, by rw [h0], fun hne => absurd (List.eq_nil_of_length_eq_zero h0) hne⟩
  · refine ⟨_, cap, rfl, fun _ => ⟨g, cur, rfl, hgg, fun j hj => ?_⟩⟩
    have hcell := h.own.cellAt j (by omega)
    rw [cell_of hgg] at hcell
    rw [hcell]
    simp [List.getElem?_eq_getElem hj, List.getD_eq_getElem?_getD]
end Go.Proofs.Ytimkkeomdkbcjaa
