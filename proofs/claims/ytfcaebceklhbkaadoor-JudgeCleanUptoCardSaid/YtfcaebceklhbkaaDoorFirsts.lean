/-
  Where a sequence was seen first, among readers: plain laws. And the readers as they lie in memory.
-/
import Derived.Test.YtfcaebceklhbkaaDoorRefWriters
namespace Go.Proofs.YtfcaebceklhbkaaDoor
open Go.RowKit
set_option linter.unusedVariables false

/-- The first of the first n that bears sequence q. -/
def fi (S : List Seen4) (q : Int) : Nat → Option Seen4
  | 0 => none
  | n + 1 => match fi S q n with
    | some s => some s
    | none => if (S.getD n default).q = q then some (S.getD n default) else none
/-- The first among the first r readers. -/
def er (R : Nat → List Seen4) (q : Int) : Nat → Option (Nat × Seen4)
  | 0 => none
  | r + 1 => match er R q r with
    | some x => some x
    | none => (fi (R r) q (R r).length).map fun s => (r, s)
/-- .. among the first r readers, and the first i of the next one. -/
def cur (R : Nat → List Seen4) (q : Int) (r i : Nat) : Option (Nat × Seen4) :=
  match er R q r with
  | some x => some x
  | none => (fi (R r) q i).map fun s => (r, s)

theorem cur_zero (R : Nat → List Seen4) (q : Int) (r : Nat) : cur R q r 0 = er R q r := by
  unfold cur
  cases er R q r <;> rfl
theorem cur_full (R : Nat → List Seen4) (q : Int) (r : Nat) : cur R q r (R r).length = er R q (r + 1) := by
  unfold cur
  rw [er]
theorem cur_succ (R : Nat → List Seen4) (q : Int) (r i : Nat) : cur R q r (i + 1) = match cur R q r i with
    | some x => some x
    | none => if ((R r).getD i default).q = q then some (r, (R r).getD i default) else none := by
  unfold cur
  cases er R q r with
  | some x => rfl
  | none =>
    simp only [fi]
    cases fi (R r) q i with
    | some s => rfl
    | none => simp only [Option.map_none]; split <;> rfl
theorem fi_mono {S : List Seen4} {q : Int} {n : Nat} {s : Seen4} (h : fi S q n = some s) : ∀ m, n ≤ m → fi S q m = some s
  | 0, hm => by
    obtain rfl : n = 0 := by omega
    exact h
  | m + 1, hm => by
    by_cases e : n = m + 1
    · subst e; exact h
    · rw [fi, fi_mono h m (by omega)]
theorem er_mono {R : Nat → List Seen4} {q : Int} {r : Nat} {x : Nat × Seen4} (h : er R q r = some x) : ∀ m, r ≤ m → er R q m = some x
  | 0, hm => by
    obtain rfl : r = 0 := by omega
    exact h
  | m + 1, hm => by
    by_cases e : r = m + 1
    · subst e; exact h
    · rw [er, er_mono h m (by omega)]
/-- What has been seen once is the first for all. -/
theorem er_cur {R : Nat → List Seen4} {q : Int} {r i nr : Nat} {x : Nat × Seen4} (h : cur R q r i = some x) (hi : i ≤ (R r).length) (hr : r < nr) : er R q nr = some x := by
  refine er_mono (r := r + 1) ?_ nr (by omega)
  rw [← cur_full]
  unfold cur at h ⊢
  cases he : er R q r with
  | some y => rw [he] at h; exact h
  | none =>
    rw [he] at h
    simp only at h ⊢
    cases hf : fi (R r) q i with
    | none => rw [hf] at h; cases h
    | some s =>
      rw [hf] at h
      rw [fi_mono hf _ hi]
      exact h

/-- What is told at one place, by who saw the sequence first. -/
def tell (f : Option (Nat × Seen4)) (r i : Nat) (s : Seen4) : List Flt :=
  match f with
  | some (r0, s0) => if eqItem s0.a s0.b s0.d s.a s.b s.d = true then [] else [⟨4, r, i, s.q, r0⟩]
  | none => []
def inT (R : Nat → List Seen4) (r : Nat) : Nat → List Flt
  | 0 => []
  | i + 1 => inT R r i ++ tell (cur R ((R r).getD i default).q r i) r i ((R r).getD i default)
def samAt (R : Nat → List Seen4) : Nat → List Flt
  | 0 => []
  | r + 1 => samAt R r ++ inT R r (R r).length
theorem eqItem_self (a b d : Int) : eqItem a b d a b d = true := by simp [eqItem]
/-- The document's way says the same. -/
theorem tell_ref {R : Nat → List Seen4} {r i nr : Nat} (hi : i < (R r).length) (hr : r < nr) :
    ∃ x, er R ((R r).getD i default).q nr = some x ∧ tell (some x) r i ((R r).getD i default) = tell (cur R ((R r).getD i default).q r i) r i ((R r).getD i default) := by
  have hs := cur_succ R ((R r).getD i default).q r i
  cases hc : cur R ((R r).getD i default).q r i with
  | some x => exact ⟨x, er_cur hc (by omega) hr, rfl⟩
  | none =>
    rw [hc] at hs
    simp only [if_true] at hs
    refine ⟨_, er_cur hs hi hr, ?_⟩
    simp [tell, eqItem_self]

theorem inT_length (R : Nat → List Seen4) (r : Nat) : ∀ i, (inT R r i).length ≤ i
  | 0 => by simp [inT]
  | i + 1 => by
    have := inT_length R r i
    simp only [inT, tell]
    split
    · split <;> simp <;> omega
    · simp; omega
/-- How many places the first r readers have. -/
def tot (R : Nat → List Seen4) : Nat → Nat
  | 0 => 0
  | r + 1 => tot R r + (R r).length
theorem samAt_length (R : Nat → List Seen4) : ∀ r, (samAt R r).length ≤ tot R r
  | 0 => by simp [samAt, tot]
  | r + 1 => by
    have := samAt_length R r
    have := inT_length R r (R r).length
    simp only [samAt, tot, List.length_append]
    omega
theorem tot_le (R : Nat → List Seen4) {r : Nat} : ∀ {m : Nat}, r ≤ m → tot R r ≤ tot R m
  | 0, h => by
    obtain rfl : r = 0 := by omega
    exact Nat.le_refl _
  | m + 1, h => by
    by_cases e : r = m + 1
    · subst e; exact Nat.le_refl _
    · have := tot_le R (r := r) (m := m) (by omega)
      simp only [tot]; omega

/-- The readers as they lie in memory. -/
def Readers (w : World) (ro : Option Addr) (nr : Nat) (A : Nat → Option Addr) (C : Nat → Nat) (R : Nat → List Seen4) : Prop :=
  (nr = 0 ∨ ∃ g o, ro = some ⟨g, o, none⟩ ∧ ∀ r, r < nr → w.cell? ⟨g, o + r, none⟩ = some (.slice (A r) (R r).length (C r))) ∧ ∀ r, r < nr → SeenRow w (A r) (R r) ∧ Small4 (R r)
theorem Readers.below {w w' : World} {ro : Option Addr} {nr : Nat} {A : Nat → Option Addr} {C : Nat → Nat} {R : Nat → List Seen4} (h : Readers w ro nr A C R) (hb : Below w.heap.size w w') : Readers w' ro nr A C R := by
  refine ⟨?_, fun r hr => ⟨(h.2 r hr).1.below hb, (h.2 r hr).2⟩⟩
  rcases h.1 with h0 | ⟨g, o, e, hc⟩
  · exact .inl h0
  · exact .inr ⟨g, o, e, fun i hi => (hb.cell (p := ⟨g, o + i, none⟩) (World.block_lt_of_cell? w _ (hc i hi))).trans (hc i hi)⟩
end Go.Proofs.YtfcaebceklhbkaaDoor
