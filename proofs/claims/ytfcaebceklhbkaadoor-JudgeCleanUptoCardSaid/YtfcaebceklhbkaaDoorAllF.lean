/-
  What All answers, and the memory of its loops: plain laws.
-/
import Derived.Test.YtfcaebceklhbkaaDoorSame
namespace Go.Proofs.YtfcaebceklhbkaaDoor
open Go.RowKit
set_option linter.unusedVariables false

/-- What is wrong with what one reader has seen. -/
def ownF (S : List Seen4) (T : List Itm) : List Flt := runF S (S.getD 0 default).q ++ writF S ++ wrtF S T
def Flt.by (f : Flt) (r : Nat) : Flt := { f with r := r }
def allAt (R : Nat → List Seen4) (T : List Itm) : Nat → List Flt
  | 0 => []
  | r + 1 => allAt R T r ++ (ownF (R r) T).map fun f => f.by r
def allF (R : Nat → List Seen4) (nr : Nat) (T : List Itm) : List Flt := allAt R T nr ++ samAt R nr

theorem ownF_length (S : List Seen4) (T : List Itm) : (ownF S T).length ≤ 3 * S.length := by
  have h1 := runAt_length S (S.getD 0 default).q S.length
  have h2 := writAt_length S S.length
  have h3 := wrtAt_length S T S.length
  simp only [ownF, runF, writF, wrtF, List.length_append] at *
  omega
theorem allAt_length (R : Nat → List Seen4) (T : List Itm) : ∀ r, (allAt R T r).length ≤ 3 * tot R r
  | 0 => by simp [allAt, tot]
  | r + 1 => by
    have := allAt_length R T r
    have := ownF_length (R r) T
    simp only [allAt, tot, List.length_append, List.length_map] at *
    omega
theorem runF_nil (x : Int) : runF [] x = [] := rfl

/-- A row of faults can be appended. -/
theorem flt_src {w : World} {B e : Nat} {v : Value} {l : List Flt} (h : w.ownsRow B e 5 v l.length (fcells l)) : SrcOf w 5 v l.length (fcells l) := by
  refine ⟨fcells_length l, ?_, ?_⟩
  · intro u hu
    obtain ⟨f, _, hf⟩ := List.mem_flatMap.1 hu
    exact flt_one f u hf
  · rcases h.2 with ⟨rfl, h0⟩ | ⟨g, cap, cur, rfl, _⟩
    · exact .inl ⟨rfl, h0⟩
    · exact .inr ⟨⟨g, 0, none⟩, cap, rfl, fun j u hu => h.cells (g := g) rfl j u hu⟩
theorem fcells_append (l m : List Flt) : fcells (l ++ m) = fcells l ++ fcells m := by simp [fcells]

/-- An append of a row to a row: what is owned, and that all below a bound stays. -/
theorem row_join {w w' : World} {M e : Nat} {v v' : Value} {l m : List Flt} (h : w.ownsRow M e 5 v l.length (fcells l)) (hM : M ≤ w.heap.size) (ha : Appended w M e 5 v l.length m.length (fcells l ++ fcells m) v' w') :
    w'.ownsRow M e 5 v' (l ++ m).length (fcells (l ++ m)) ∧ Below M w w' ∧ M ≤ w'.heap.size := by
  obtain ⟨h1, h2, _⟩ := ha
  have hs := h2.size
  refine ⟨by rw [fcells_append, List.length_append]; exact h1, (Below.refl _ _).grown h2 hM (fun k hk => (h.lt k hk).1), by omega⟩

/-- The memory of the loop that hands one reader's faults on: the row out, and the row of the reader's own. -/
structure ASt (w0 : World) (N e5 : Nat) (l m : List Flt) (vown v : Value) (wr : World) : Prop where
  row : wr.ownsRow N e5 5 v l.length (fcells l)
  own : wr.ownsRow N e5 5 vown m.length (fcells m)
  ne : vown.ownBlock = none ∨ vown.ownBlock ≠ v.ownBlock
  low : Below N w0 wr
  nw : N ≤ wr.heap.size
section
variable {w0 wr : World} {N e5 : Nat} {l m : List Flt} {vown v : Value}

theorem ASt.alloc (h : ASt w0 N e5 l m vown v wr) (o : Obj) : ASt w0 N e5 l m vown v (wr.alloc o) :=
  ⟨h.row.alloc o, h.own.alloc o, h.ne, h.low.alloc h.nw o, by have := h.nw; simp; omega⟩
theorem ASt.app (h : ASt w0 N e5 l m vown v wr) {o : Obj} {x : Flt} {v' : Value} {w1 : World}
    (ha : Appended (wr.alloc o) N e5 5 v l.length 1 (fcells l ++ x.cells) v' w1) : ASt w0 N e5 (l ++ [x]) m vown v' w1 := by
  obtain ⟨h1, h2, h3⟩ := row_add h.low h.nw h.row ha
  obtain ⟨_, hg, hsh⟩ := ha
  refine ⟨h1, (h.own.alloc o).kept hg h.ne, ?_, h2, h3⟩
  rcases h.ne with hn | hn
  · exact .inl hn
  · right
    intro e
    rcases hsh with ⟨_, _, h0, _⟩ | ⟨g, cap, rfl, _, hw | hw⟩
    · cases h0
    · apply hn; rw [hw]; exact e
    · have := (h.own.lt g e).2
      simp at hw
      omega

/-- From the row out and a row of the round's own to that memory. -/
theorem ASt.start {wM w5 : World} (hr : RSt w0 N e5 l v wM) (ho : w5.ownsRow wM.heap.size e5 5 vown m.length (fcells m)) (hb : Below wM.heap.size wM w5) : ASt w0 N e5 l m vown v w5 := by
  have h5 := hr.after hb
  refine ⟨h5.row, own_base ho hr.nw, ?_, h5.low, h5.nw⟩
  cases hv : vown.ownBlock with
  | none => exact .inl rfl
  | some g =>
    right
    intro e
    have h1 := (ho.lt g hv).1
    have h2 := (hr.row.lt g e.symm).2
    omega
theorem ASt.rst (h : ASt w0 N e5 l m vown v wr) : RSt w0 N e5 l v wr := ⟨h.row, h.low, h.nw⟩
end
end Go.Proofs.YtfcaebceklhbkaaDoor
