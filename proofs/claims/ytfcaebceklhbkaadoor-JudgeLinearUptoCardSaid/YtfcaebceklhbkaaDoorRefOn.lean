/-
  The document's search.on: its memory, and its contract.
-/
import Derived.Test.YtfcaebceklhbkaaDoorRefMem
namespace Go.Proofs.YtfcaebceklhbkaaDoor
open Go.RowKit
set_option linter.unusedVariables false

/-- A state's numbers, in a block that the search does not write. -/
def StK (N : Nat) (W : World) (v : Value) (s : List Int) : Prop :=
  ∃ ao c, v = .slice ao s.length c ∧ (s = [] ∨ ∃ g p, ao = some ⟨g, p, none⟩ ∧ (g < N ∨ ∃ cur, W.heap[g]? = some (.cells cur 2 (0, 0))) ∧ ∀ i, i < s.length → W.cell? ⟨g, p + i, none⟩ = some (.int .i64 (s.getD i 0)))
/-- What the search leaves: all below N, all rows of numbers. -/
def FK (N : Nat) (W W' : World) : Prop := Below N W W' ∧ ∀ (k : Nat) (cur : Array Value), W.heap[k]? = some (Obj.cells cur 2 (0, 0)) → W'.heap[k]? = W.heap[k]?
theorem FK.refl (N : Nat) (W : World) : FK N W W := ⟨Below.refl _ _, fun _ _ _ => rfl⟩
theorem FK.trans {N : Nat} {W W' W2 : World} (h : FK N W W') (k : FK N W' W2) : FK N W W2 := ⟨h.1.trans k.1, fun g cur hg => by have h1 := h.2 g cur hg; exact (k.2 g cur (h1.trans hg)).trans h1⟩
theorem FK.below {N : Nat} {W W' : World} (h : Below W.heap.size W W') (hN : N ≤ W.heap.size) : FK N W W' := ⟨h.mono hN, fun k cur hk => h.block k (Array.getElem?_eq_some_iff.1 hk).1⟩
theorem StK.nums {N : Nat} {W : World} {v : Value} {s : List Int} (h : StK N W v s) : Nums W v s := by
  obtain ⟨ao, c, e, h⟩ := h
  rcases h with h | ⟨g, p, h1, _, h2⟩
  · exact ⟨ao, c, e, .inl h⟩
  · exact ⟨ao, c, e, .inr ⟨g, p, h1, h2⟩⟩
theorem StK.fk {N : Nat} {W W' : World} {v : Value} {s : List Int} (h : StK N W v s) (k : FK N W W') : StK N W' v s := by
  obtain ⟨ao, c, e, h⟩ := h
  rcases h with h | ⟨g, p, h1, h2, h3⟩
  · exact ⟨ao, c, e, .inl h⟩
  · refine ⟨ao, c, e, .inr ⟨g, p, h1, ?_, fun i hi => ?_⟩⟩
    · rcases h2 with h2 | ⟨cur, h2⟩
      · exact .inl h2
      · exact .inr ⟨cur, (k.2 g cur h2).trans h2⟩
    · rw [← h3 i hi]
      apply World.cell?_of_block
      rcases h2 with h2 | ⟨cur, h2⟩
      · exact k.1.block g h2
      · exact k.2 g cur h2
theorem StK.new {N : Nat} {W W' : World} {v : Value} {s : List Int} (h : OwnNums W.heap.size W' v s) : StK N W' v s := by
  rcases h with ⟨rfl, rfl⟩ | ⟨g, p, c, cur, rfl, hg, hb, hc, hs, hx⟩
  · exact ⟨none, 0, rfl, .inl rfl⟩
  · exact ⟨_, c, rfl, .inr ⟨g, p, rfl, .inr ⟨cur, hb⟩, fun i hi => by rw [cell_of hb]; exact hx i hi⟩⟩

/-- The search's memory: its own struct, the table of dead states, a row for each set of calls that are done. -/
structure QSt (N sb nb n : Nat) (o : Int) (cv : Value) (S : List Cl) (V : Nat → Value) (D : Nat → List (Value × List Int)) (W : World) : Prop where
  sbk : W.heap[sb]? = some (.cells #[.int .i64 o, cv, .slice (some ⟨nb, 0, none⟩) (2 ^ n) (2 ^ n)] 99 (0, 0))
  nbk : ∃ cs : Array Value, W.heap[nb]? = some (.cells cs 126 (0, 0)) ∧ cs.size = 2 ^ n ∧ ∀ d, d < 2 ^ n → cs[d]? = some (V d)
  rows : ∀ d, d < 2 ^ n → W.ownsRow N 22 1 (V d) (D d).length ((D d).map Prod.fst)
  apart : ∀ d e, d < 2 ^ n → e < 2 ^ n → d ≠ e → (V d).ownBlock = none ∨ (V d).ownBlock ≠ (V e).ownBlock
  hnb : N ≤ nb
  hsb : N ≤ sb
  st : ∀ d, d < 2 ^ n → ∀ x ∈ D d, StK N W x.1 x.2 ∧ srch o S (n - pc n d) d x.2 = none ∧ x.2.length ≤ 3000000
section
variable {N sb nb n : Nat} {o : Int} {cv : Value} {S : List Cl} {V : Nat → Value} {D : Nat → List (Value × List Int)} {W W' : World}
theorem QSt.below (h : QSt N sb nb n o cv S V D W) (hb : Below W.heap.size W W') : QSt N sb nb n o cv S V D W' := by
  obtain ⟨cs, h1, h2, h3⟩ := h.nbk
  have hlt := (Array.getElem?_eq_some_iff.1 h.sbk).1
  exact ⟨(hb.block _ hlt).trans h.sbk, ⟨cs, (hb.block _ (Array.getElem?_eq_some_iff.1 h1).1).trans h1, h2, h3⟩, fun d hd => own_below (h.rows d hd) hb, h.apart, h.hnb, h.hsb,
    fun d hd x hx => ⟨(h.st d hd x hx).1.fk (FK.below hb (by have := h.hsb; omega)), (h.st d hd x hx).2⟩⟩
theorem QSt.cell (h : QSt N sb nb n o cv S V D W) {d : Nat} (hd : d < 2 ^ n) : W.cell? ⟨nb, d, none⟩ = some (V d) ∧ W.frozen? ⟨nb, d, none⟩ = false := by
  obtain ⟨cs, h1, h2, h3⟩ := h.nbk
  exact ⟨(cell_of h1 d).trans (h3 d hd), free_of h1 d⟩
theorem QSt.form (h : QSt N sb nb n o cv S V D W) {d : Nat} (hd : d < 2 ^ n) : ∃ ao c, V d = .slice ao (D d).length c := by
  rcases (h.rows d hd).2 with ⟨e, h0⟩ | ⟨g, cap, _, e, _⟩
  · exact ⟨none, 0, by rw [e, h0]⟩
  · exact ⟨_, cap, e⟩
/-- A dead state is laid into the table. -/
theorem QSt.put (h : QSt N sb nb n o cv S V D W) {d : Nat} (hd : d < 2 ^ n) {v v' : Value} {s : List Int} {x : Obj} {w1 : World} (hk : StK N W v s) (hs : srch o S (n - pc n d) d s = none) (hl : s.length ≤ 3000000)
    (ha : Appended (W.alloc x) N 22 1 (V d) (D d).length 1 ((D d).map Prod.fst ++ [v]) v' w1) :
    QSt N sb nb n o cv S (fun e => if e = d then v' else V e) (fun e => if e = d then D d ++ [(v, s)] else D e) (w1.setCell ⟨nb, d, none⟩ v') ∧ FK N W (w1.setCell ⟨nb, d, none⟩ v') ∧
      w1.cell? ⟨nb, d, none⟩ = some (V d) ∧ w1.frozen? ⟨nb, d, none⟩ = false ∧ w1.heap[sb]? = W.heap[sb]? := by
  obtain ⟨h1, h2, h3⟩ := ha
  have hA := h.below ((Below.refl _ _).alloc (Nat.le_refl _) x)
  have hNs : N ≤ W.heap.size := by have := h.hsb; have := (Array.getElem?_eq_some_iff.1 h.sbk).1; omega
  have hsz := h2.size
  simp at hsz
  -- what the append leaves
  have hkeep : ∀ g, g < (W.alloc x).heap.size → (V d).ownBlock ≠ some g → w1.heap[g]? = (W.alloc x).heap[g]? := fun g hg hne => h2.block g hg (fun e => hne e.symm)
  have hrd := hA.rows d hd
  have hkind := Lib.ownsRow_kind hrd
  obtain ⟨cs, hc1, hc2, hc3⟩ := hA.nbk
  have hnbne : (V d).ownBlock ≠ some nb := by
    intro e
    obtain ⟨c, fz, hx⟩ := hkind nb e
    rw [hc1] at hx
    cases hx
  have hsbne : (V d).ownBlock ≠ some sb := by
    intro e
    obtain ⟨c, fz, hx⟩ := hkind sb e
    rw [hA.sbk] at hx
    cases hx
  have hnsb : nb ≠ sb := by
    intro e
    subst e
    rw [hA.sbk] at hc1
    cases hc1
  have hnblt := (Array.getElem?_eq_some_iff.1 hc1).1
  have hsblt := (Array.getElem?_eq_some_iff.1 hA.sbk).1
  have hnb1 := (hkeep nb hnblt hnbne).trans hc1
  have hsb1 := (hkeep sb hsblt hsbne).trans hA.sbk
  have hv' : ∀ g, v'.ownBlock = some g → (V d).ownBlock = some g ∨ (W.alloc x).heap.size ≤ g := by
    intro g hg
    rcases h3 with ⟨e, _⟩ | ⟨g', cap, e, _, hh⟩
    · rw [e] at hg; cases hg
    · rw [e] at hg
      simp [Value.ownBlock] at hg
      subst hg
      exact hh
  have hgrow : w1.grownBy (w1.setCell ⟨nb, d, none⟩ v') (some nb) := ⟨rfl, rfl, rfl, by simp [World.setCell], fun k _ hk => Below.heap_setCell _ _ _ _ (fun e => hk (by simp [e]))⟩
  have h1' : w1.ownsRow N 22 1 v' (D d ++ [(v, s)]).length ((D d ++ [(v, s)]).map Prod.fst) := by simpa using h1
  have hkd1 := Lib.ownsRow_kind h1'
  have hv'nb : v'.ownBlock = none ∨ v'.ownBlock ≠ some nb := by
    right
    intro e
    obtain ⟨c, fz, hx⟩ := hkd1 nb e
    rw [hnb1] at hx
    cases hx
  have hfk : FK N W (w1.setCell ⟨nb, d, none⟩ v') := by
    have hb : Below N W w1 := ((Below.refl _ _).alloc hNs x).grown h2 (by simp; omega) (fun k hk => (hrd.lt k hk).1)
    refine ⟨hb.setCell h.hnb _, fun k cur hk => ?_⟩
    have hklt := (Array.getElem?_eq_some_iff.1 hk).1
    have hkA : (W.alloc x).heap[k]? = some (.cells cur 2 (0, 0)) := (Below.heap_alloc _ _ _ hklt).trans hk
    have hkne : k ≠ nb := by
      intro e
      subst e
      rw [hc1] at hkA
      cases hkA
    have hkv : (V d).ownBlock ≠ some k := by
      intro e
      obtain ⟨c, fz, hx⟩ := hkind k e
      rw [hkA] at hx
      cases hx
    rw [Below.heap_setCell _ _ _ _ hkne, hkeep k (by simp; omega) hkv]
    exact Below.heap_alloc _ _ _ hklt
  refine ⟨⟨?_, ⟨cs.setIfInBounds d v', set_at hnb1 d _, by simpa using hc2, fun e he => ?_⟩, fun e he => ?_, fun e e' he he' hne => ?_, h.hnb, h.hsb, fun e he y hy => ?_⟩, hfk, ?_, free_of hnb1 d, ?_⟩
  · rw [Below.heap_setCell _ _ _ _ (fun e => hnsb e.symm)]
    exact hsb1
  · by_cases hed : e = d
    · subst hed
      rw [if_pos rfl, Array.getElem?_setIfInBounds_self_of_lt (by rw [hc2]; exact he)]
    · rw [if_neg hed, Array.getElem?_setIfInBounds_ne (fun e' => hed e'.symm)]
      exact hc3 e he
  · by_cases hed : e = d
    · subst hed
      simp only [if_true]
      exact h1'.kept hgrow hv'nb
    · simp only [if_neg hed]
      have hre := hA.rows e he
      have hkne := Lib.ownsRow_kind hre
      have := hre.kept h2 (hA.apart e d he hd hed)
      refine this.kept hgrow ?_
      right
      intro e2
      obtain ⟨c, fz, hx⟩ := hkne nb e2
      rw [hc1] at hx
      cases hx
  · by_cases hed : e = d
    · subst hed
      have hne' : e' ≠ e := fun x => hne x.symm
      simp only [if_true, if_neg hne']
      cases hvb : v'.ownBlock with
      | none => exact .inl rfl
      | some g =>
        right
        intro hx
        rcases hv' g hvb with h4 | h4
        · rcases hA.apart e e' he he' hne with h5 | h5
          · rw [h4] at h5; cases h5
          · exact h5 (h4.trans hx)
        · have := ((hA.rows e' he').lt g hx.symm).2
          omega
    · simp only [if_neg hed]
      by_cases hed' : e' = d
      · subst hed'
        simp only [if_true]
        cases hvb : (V e).ownBlock with
        | none => exact .inl rfl
        | some g =>
          right
          intro hx
          rcases hv' g hx.symm with h4 | h4
          · rcases hA.apart e e' he he' hed with h5 | h5
            · rw [hvb] at h5; cases h5
            · exact h5 (hvb.trans h4.symm)
          · have := ((hA.rows e he).lt g hvb).2
            omega
      · simp only [if_neg hed']
        exact h.apart e e' he he' hne
  · by_cases hed : e = d
    · subst hed
      simp only [if_true, List.mem_append, List.mem_singleton] at hy
      rcases hy with hy | rfl
      · exact ⟨(h.st e he y hy).1.fk hfk, (h.st e he y hy).2⟩
      · exact ⟨hk.fk hfk, hs, hl⟩
    · simp only [if_neg hed] at hy
      exact ⟨(h.st e he y hy).1.fk hfk, (h.st e he y hy).2⟩
  · rw [cell_of hnb1]
    exact hc3 d hd
  · exact hsb1.trans h.sbk.symm
end
end Go.Proofs.YtfcaebceklhbkaaDoor
