/-
  Merged out of: Rise SortL SetL SetW.
-/
import Derived.Test.YtfcaebceklhbkaaDoorG1
import Derived.Shelf.SlGeneric
import Derived.Ground.SlgmProg
import Derived.Ground.SlgnProg
import Derived.Shelf.SortM.Plain
import Derived.Shelf.SortM.SortNone
import Derived.Shelf.SlicesG.CompactI
import Derived.Shelf.SlicesG.SearchI
import Derived.Shelf.SlicesG.Delete
import Derived.Test.YtfcaebceklhbkaaDoorProg
import Derived.Lib.OwnBridge
import Derived.Sort.OwnSortedInts
/-
  Strictly rising lists of numbers, in plain Lean. No program in sight.
-/
namespace Go.Proofs.YtfcaebceklhbkaaDoor
open Go.RowKit
set_option linter.unusedVariables false

abbrev Rise (l : List Int) : Prop := l.Pairwise (· < ·)
theorem rise_eq : ∀ {l m : List Int}, Rise l → Rise m → (∀ x, x ∈ l ↔ x ∈ m) → l = m
  | [], [], _, _, _ => rfl
  | [], y :: m, _, _, h => by have := (h y).2 List.mem_cons_self; cases this
  | x :: l, [], _, _, h => by have := (h x).1 List.mem_cons_self; cases this
  | x :: l, y :: m, hl, hm, h => by
    obtain ⟨h1, h2⟩ := List.pairwise_cons.1 hl
    obtain ⟨h3, h4⟩ := List.pairwise_cons.1 hm
    have exy : x = y := by
      rcases List.mem_cons.1 ((h x).1 List.mem_cons_self) with e | e
      · exact e
      · rcases List.mem_cons.1 ((h y).2 List.mem_cons_self) with e2 | e2
        · exact e2.symm
        · have := h3 x e
          have := h1 y e2
          omega
    subst exy
    congr 1
    refine rise_eq h2 h4 fun z => ⟨fun hz => ?_, fun hz => ?_⟩
    · rcases List.mem_cons.1 ((h z).1 (List.mem_cons_of_mem _ hz)) with e | e
      · have := h1 z hz; omega
      · exact e
    · rcases List.mem_cons.1 ((h z).2 (List.mem_cons_of_mem _ hz)) with e | e
      · have := h3 z hz; omega
      · exact e
theorem putS_mem_iff {v x : Int} : ∀ {l : List Int}, Rise l → (x ∈ putS v l ↔ x = v ∨ x ∈ l)
  | [], _ => by simp [putS]
  | y :: l, h => by
    obtain ⟨h1, h2⟩ := List.pairwise_cons.1 h
    simp only [putS]
    split
    · rw [List.mem_cons, putS_mem_iff h2, List.mem_cons]
      exact ⟨fun h => by rcases h with h | h | h <;> simp [h], fun h => by rcases h with h | h | h <;> simp [h]⟩
    · split
      · rename_i e
        subst e
        simp
      · simp
theorem putS_rise {v : Int} : ∀ {l : List Int}, Rise l → Rise (putS v l)
  | [], _ => by simp [putS]
  | y :: l, h => by
    obtain ⟨h1, h2⟩ := List.pairwise_cons.1 h
    simp only [putS]
    split
    · rename_i hlt
      refine List.pairwise_cons.2 ⟨fun z hz => ?_, putS_rise h2⟩
      rcases putS_mem hz with e | e
      · omega
      · exact h1 z e
    · split
      · exact h
      · refine List.pairwise_cons.2 ⟨fun z hz => ?_, h⟩
        rcases List.mem_cons.1 hz with e | e
        · omega
        · have := h1 z e; omega
theorem rise_fold : ∀ (s l : List Int), Rise l → Rise (s.foldl (fun l v => putS v l) l) ∧ ∀ x, x ∈ s.foldl (fun l v => putS v l) l ↔ x ∈ s ∨ x ∈ l
  | [], l, h => ⟨h, fun x => by simp⟩
  | v :: s, l, h => by
    obtain ⟨h1, h2⟩ := rise_fold s (putS v l) (putS_rise h)
    refine ⟨h1, fun x => ?_⟩
    show x ∈ s.foldl (fun l v => putS v l) (putS v l) ↔ _
    rw [h2 x, putS_mem_iff h, List.mem_cons]
    exact ⟨fun h => by rcases h with h | h | h <;> simp [h], fun h => by rcases h with (h | h) | h <;> simp [h]⟩
theorem riseF_rise (s : List Int) : Rise (riseF s) := (rise_fold s [] List.Pairwise.nil).1
theorem riseF_iff (s : List Int) (x : Int) : x ∈ riseF s ↔ x ∈ s := by
  have := (rise_fold s [] List.Pairwise.nil).2 x
  simp only [List.not_mem_nil, or_false] at this
  exact this
/-- How many are less: where a number stands, or would stand. -/
def below (r : List Int) (a : Int) : Nat := r.countP (fun x => decide (x < a))
theorem below_le (r : List Int) (a : Int) : below r a ≤ r.length := List.countP_le_length
theorem rise_split : ∀ {r : List Int} (a : Int), Rise r → (∀ x ∈ r.take (below r a), x < a) ∧ (∀ x ∈ r.drop (below r a), a ≤ x)
  | [], a, _ => by simp [below]
  | y :: r, a, h => by
    obtain ⟨h1, h2⟩ := List.pairwise_cons.1 h
    obtain ⟨h3, h4⟩ := rise_split a h2
    by_cases hy : y < a
    · have e : below (y :: r) a = below r a + 1 := by simp [below, hy]
      rw [e, List.take_succ_cons, List.drop_succ_cons]
      refine ⟨fun x hx => ?_, h4⟩
      rcases List.mem_cons.1 hx with e | e
      · omega
      · exact h3 x e
    · have hz : ∀ x ∈ y :: r, ¬ x < a := by
        intro x hx
        rcases List.mem_cons.1 hx with e | e
        · omega
        · have := h1 x e; omega
      have e : below (y :: r) a = 0 := by
        unfold below
        rw [List.countP_eq_zero]
        intro x hx
        simpa using hz x hx
      rw [e]
      simp only [List.take_zero, List.not_mem_nil, false_implies, implies_true, List.drop_zero, true_and]
      intro x hx
      have := hz x hx
      omega
theorem insF_put {r : List Int} {a : Int} (h : Rise r) (ha : a ∉ r) : insF r (below r a) a = putS a r := by
  obtain ⟨h1, h2⟩ := rise_split a h
  have h2' : ∀ x ∈ r.drop (below r a), a < x := fun x hx => by
    have := h2 x hx
    have : x ≠ a := fun e => ha (e ▸ List.mem_of_mem_drop hx)
    omega
  refine rise_eq ?_ (putS_rise h) fun x => ?_
  · unfold insF
    refine List.pairwise_append.2 ⟨h.sublist (List.take_sublist _ _), List.pairwise_cons.2 ⟨h2', h.sublist (List.drop_sublist _ _)⟩, fun x hx y hy => ?_⟩
    have := h1 x hx
    rcases List.mem_cons.1 hy with e | e
    · omega
    · have := h2' y e; omega
  · rw [putS_mem_iff h]
    have hr : x ∈ r ↔ x ∈ r.take (below r a) ∨ x ∈ r.drop (below r a) := by rw [← List.mem_append, List.take_append_drop]
    rw [hr]
    simp only [insF, List.mem_append, List.mem_cons]
    exact ⟨fun h => by rcases h with h | h | h <;> simp [h], fun h => by rcases h with h | h | h <;> simp [h]⟩
theorem below_at {r : List Int} {a : Int} (h : Rise r) (ha : a ∈ r) : below r a < r.length ∧ r.drop (below r a) = a :: r.drop (below r a + 1) := by
  obtain ⟨h1, h2⟩ := rise_split a h
  have hd : a ∈ r.drop (below r a) := by
    have : a ∈ r.take (below r a) ++ r.drop (below r a) := by rw [List.take_append_drop]; exact ha
    rcases List.mem_append.1 this with e | e
    · have := h1 a e; omega
    · exact e
  have hlt : below r a < r.length := by
    rcases Nat.lt_or_ge (below r a) r.length with h | h
    · exact h
    · rw [List.drop_of_length_le h] at hd; cases hd
  refine ⟨hlt, ?_⟩
  have e := List.drop_eq_getElem_cons hlt
  have hs : Rise (r.drop (below r a)) := h.sublist (List.drop_sublist _ _)
  rw [e] at hd hs h2 ⊢
  congr 1
  rcases List.mem_cons.1 hd with e2 | e2
  · exact e2.symm
  · have h3 := (List.pairwise_cons.1 hs).1 a e2
    have h4 := h2 _ List.mem_cons_self
    omega
theorem del_filter {r : List Int} {a : Int} (h : Rise r) (ha : a ∈ r) : r.take (below r a) ++ r.drop (below r a + 1) = r.filter (· ≠ a) := by
  obtain ⟨h1, h2⟩ := rise_split a h
  obtain ⟨_, e⟩ := below_at h ha
  have hs : Rise (r.drop (below r a)) := h.sublist (List.drop_sublist _ _)
  rw [e] at hs
  have h3 := (List.pairwise_cons.1 hs).1
  have e2 : r = r.take (below r a) ++ a :: r.drop (below r a + 1) := by rw [← e, List.take_append_drop]
  conv => rhs; rw [e2]
  rw [List.filter_append, List.filter_cons, if_neg (by simp), List.filter_eq_self.2, List.filter_eq_self.2]
  · intro x hx
    have := h3 x hx
    simp; omega
  · intro x hx
    have := h1 x hx
    simp; omega

/-- The document's put, of a rising list. -/
theorem putAt_inv {l : List Int} {v : Int} (h : Rise l) : ∀ j, j ≤ l.length → Rise (putAt l v j).1 ∧ (∀ x ∈ (putAt l v j).1, ∀ y ∈ l.drop j, x < y ∨ (x = v ∧ x ≤ y)) ∧ ((putAt l v j).2 = false → ∀ x ∈ (putAt l v j).1, x < v) ∧ ((putAt l v j).2 = true → v ∈ (putAt l v j).1 ∧ ∀ y ∈ l.drop j, v < y) ∧
    (∀ x ∈ (putAt l v j).1, x = v ∨ x ∈ l) ∧ (∀ x ∈ l.take j, x ∈ (putAt l v j).1)
  | 0, _ => by simp [putAt]
  | j + 1, hj => by
    obtain ⟨i1, i2, i3, i4, i5, i6⟩ := putAt_inv h (v := v) j (by omega)
    have hlt : j < l.length := by omega
    have hy : l.getD j 0 = l[j] := by simp [List.getD, hlt]
    have hd := List.drop_eq_getElem_cons hlt
    have hs : Rise (l.drop j) := h.sublist (List.drop_sublist _ _)
    rw [hd] at hs i2 i4
    have hlater := (List.pairwise_cons.1 hs).1
    have ht : l.take (j + 1) = l.take j ++ [l[j]] := by rw [List.take_add_one, List.getElem?_eq_getElem hlt]; rfl
    have hin : l[j] ∈ l := List.getElem_mem _
    simp only [putAt, hy]
    rw [ht]
    generalize putAt l v j = p at *
    generalize l[j] = y at *
    generalize l.drop (j + 1) = D at *
    obtain ⟨r, d⟩ := p
    simp only at i1 i2 i3 i4 i5 i6 ⊢
    have hsn : ∀ z : Int, (∀ x ∈ r, x < z) → Rise (r ++ [z]) := fun z hz => List.pairwise_append.2 ⟨i1, by simp, fun a ha b hb => by simp at hb; subst hb; exact hz a ha⟩
    by_cases e1 : y = v
    · subst e1
      rw [if_pos rfl]
      have hd0 : d = false := by
        cases d with
        | false => rfl
        | true => have := (i4 rfl).2 y List.mem_cons_self; omega
      have hr := i3 hd0
      refine ⟨hsn y hr, fun x hx z hz => ?_, by simp, fun _ => ⟨by simp, hlater⟩, fun x hx => ?_, fun x hx => ?_⟩
      · have := hlater z hz
        rcases List.mem_append.1 hx with e | e
        · have := hr x e; omega
        · simp at e; omega
      · rcases List.mem_append.1 hx with e | e
        · exact i5 x e
        · simp at e; exact .inl e
      · rcases List.mem_append.1 hx with e | e
        · exact List.mem_append.2 (.inl (i6 x e))
        · exact List.mem_append.2 (.inr e)
    · rw [if_neg e1]
      by_cases e2 : y > v ∧ d = false
      · rw [if_pos e2]
        obtain ⟨e2, rfl⟩ := e2
        have hr := i3 rfl
        refine ⟨?_, fun x hx z hz => ?_, by simp, fun _ => ⟨by simp, fun z hz => by have := hlater z hz; omega⟩, fun x hx => ?_, fun x hx => ?_⟩
        · refine List.pairwise_append.2 ⟨hsn v hr, by simp, fun a ha b hb => ?_⟩
          simp at hb
          subst hb
          rcases List.mem_append.1 ha with e | e
          · have := hr a e; omega
          · simp at e; omega
        · have := hlater z hz
          simp only [List.append_assoc, List.mem_append, List.mem_cons, List.not_mem_nil, or_false] at hx
          rcases hx with e | e | e
          · have := hr x e; omega
          · omega
          · omega
        · simp only [List.append_assoc, List.mem_append, List.mem_cons, List.not_mem_nil, or_false] at hx
          rcases hx with e | e | e
          · exact i5 x e
          · exact .inl e
          · exact .inr (e ▸ hin)
        · rcases List.mem_append.1 hx with e | e
          · exact List.mem_append.2 (.inl (List.mem_append.2 (.inl (i6 x e))))
          · exact List.mem_append.2 (.inr e)
      · rw [if_neg e2]
        have hr : ∀ x ∈ r, x < y := fun x hx => by
          rcases i2 x hx y List.mem_cons_self with e | ⟨e, e'⟩
          · exact e
          · omega
        refine ⟨hsn y hr, fun x hx z hz => ?_, fun hd0 x hx => ?_, fun hd1 => ?_, fun x hx => ?_, fun x hx => ?_⟩
        · have := hlater z hz
          rcases List.mem_append.1 hx with e | e
          · have := hr x e; omega
          · simp at e; omega
        · rcases List.mem_append.1 hx with e | e
          · exact i3 hd0 x e
          · simp at e
            have : ¬ y > v := fun h => e2 ⟨h, hd0⟩
            omega
        · obtain ⟨h1, h2⟩ := i4 hd1
          exact ⟨List.mem_append.2 (.inl h1), fun z hz => h2 z (List.mem_cons_of_mem _ hz)⟩
        · rcases List.mem_append.1 hx with e | e
          · exact i5 x e
          · simp at e; exact .inr (e ▸ hin)
        · rcases List.mem_append.1 hx with e | e
          · exact List.mem_append.2 (.inl (i6 x e))
          · exact List.mem_append.2 (.inr e)
theorem putR_put {l : List Int} {v : Int} (h : Rise l) : putR l v = putS v l := by
  obtain ⟨i1, _, i3, i4, i5, i6⟩ := putAt_inv h (v := v) l.length (Nat.le_refl _)
  rw [List.take_length] at i6
  refine rise_eq ?_ (putS_rise h) fun x => ?_
  · unfold putR
    split
    · exact i1
    · rename_i hd
      simp only [Bool.not_eq_true] at hd
      exact List.pairwise_append.2 ⟨i1, by simp, fun a ha b hb => by simp at hb; subst hb; exact i3 hd a ha⟩
  · rw [putS_mem_iff h]
    unfold putR
    split
    · rename_i hd
      refine ⟨i5 x, fun hx => ?_⟩
      rcases hx with e | e
      · exact e ▸ (i4 hd).1
      · exact i6 x e
    · rw [List.mem_append]
      refine ⟨fun hx => ?_, fun hx => ?_⟩
      · rcases hx with e | e
        · exact i5 x e
        · simp at e; exact .inl e
      · rcases hx with e | e
        · exact .inr (by simp [e])
        · exact .inl (i6 x e)
theorem riAt_fold (l : List Int) : ∀ j, j ≤ l.length → riAt l j = (l.take j).foldl (fun l v => putS v l) [] ∧ Rise (riAt l j)
  | 0, _ => by simp [riAt]
  | j + 1, hj => by
    obtain ⟨h1, h2⟩ := riAt_fold l j (by omega)
    have hlt : j < l.length := by omega
    have hy : l.getD j 0 = l[j] := by simp [List.getD, hlt]
    rw [riAt, putR_put h2, hy, List.take_add_one, List.getElem?_eq_getElem hlt, Option.toList_some, List.foldl_append, ← h1]
    exact ⟨rfl, putS_rise h2⟩
theorem riAt_rise (l : List Int) : riAt l l.length = riseF l := by
  have := (riAt_fold l l.length (Nat.le_refl _)).1
  rw [List.take_length] at this
  exact this

theorem compactUpTo_succ (d : Array Int) (k : Nat) : Lib.compactUpTo d (k + 1) = Lib.compactUpTo d k ++ (if Lib.keeps d k = true then [d[k]!] else []) := by
  unfold Lib.compactUpTo
  rw [List.range_succ, List.filter_append, List.map_append]
  by_cases h : Lib.keeps d k = true
  · simp [h]
  · simp [h]
/-- slices.Compact of what slices.Sort leaves. -/
theorem compact_inv {d : Array Int} (h : ∀ i j, i ≤ j → j < d.size → d[i]! ≤ d[j]!) : ∀ k, k ≤ d.size → Rise (Lib.compactUpTo d k) ∧ (∀ x, x ∈ Lib.compactUpTo d k ↔ ∃ j, j < k ∧ d[j]! = x)
  | 0, _ => by simp [Lib.compactUpTo]
  | k + 1, hk => by
    obtain ⟨h1, h2⟩ := compact_inv h k (by omega)
    rw [compactUpTo_succ]
    by_cases hkk : Lib.keeps d k = true
    · rw [if_pos hkk]
      have hk2 : k = 0 ∨ d[k]! ≠ d[k - 1]! := by simpa [Lib.keeps] using hkk
      refine ⟨List.pairwise_append.2 ⟨h1, by simp, fun a ha b hb => ?_⟩, fun x => ?_⟩
      · simp at hb
        subst hb
        obtain ⟨j, hj, rfl⟩ := (h2 a).1 ha
        rcases hk2 with e | e
        · omega
        · have e1 := h j (k - 1) (by omega) (by omega)
          have e2 := h (k - 1) k (by omega) (by omega)
          omega
      · rw [List.mem_append, h2 x]
        refine ⟨fun hx => ?_, fun hx => ?_⟩
        · rcases hx with ⟨j, hj, e⟩ | e
          · exact ⟨j, by omega, e⟩
          · simp at e
            exact ⟨k, by omega, e.symm⟩
        · obtain ⟨j, hj, e⟩ := hx
          rcases (by omega : j < k ∨ j = k) with e2 | e2
          · exact .inl ⟨j, e2, e⟩
          · subst e2
            exact .inr (by simp [e])
    · rw [if_neg hkk, List.append_nil]
      have hk2 : k ≠ 0 ∧ d[k]! = d[k - 1]! := by simpa [Lib.keeps] using hkk
      refine ⟨h1, fun x => ?_⟩
      rw [h2 x]
      refine ⟨fun ⟨j, hj, e⟩ => ⟨j, by omega, e⟩, fun ⟨j, hj, e⟩ => ?_⟩
      rcases (by omega : j < k ∨ j = k) with e2 | e2
      · exact ⟨j, e2, e⟩
      · subst e2
        exact ⟨j - 1, by omega, by rw [← hk2.2]; exact e⟩
theorem compact_sort (zs : List Int) : Lib.compact (zs.mergeSort fun x y => decide (x ≤ y)) = riseF zs := by
  have hp : (zs.mergeSort fun x y => decide (x ≤ y)).Pairwise (fun x y => decide (x ≤ y) = true) :=
    List.pairwise_mergeSort (fun a b c h1 h2 => by simp at *; omega) (fun a b => by simp; omega) zs
  have hm : ∀ x, x ∈ (zs.mergeSort fun x y => decide (x ≤ y)) ↔ x ∈ zs := fun x => List.mem_mergeSort
  generalize (zs.mergeSort fun x y => decide (x ≤ y)) = m at *
  have hs : ∀ i j, i ≤ j → j < m.toArray.size → m.toArray[i]! ≤ m.toArray[j]! := by
    intro i j hij hj
    have hj' : j < m.length := by simpa using hj
    have hi' : i < m.length := by omega
    rcases (by omega : i = j ∨ i < j) with e | e
    · subst e; exact Int.le_refl _
    · have := List.pairwise_iff_getElem.1 hp i j hi' hj' e
      simp only [decide_eq_true_eq] at this
      rw [getElem!_pos m.toArray i (by simpa using hi'), getElem!_pos m.toArray j hj]
      simpa using this
  obtain ⟨h1, h2⟩ := compact_inv hs m.length (by simp)
  refine rise_eq h1 (riseF_rise zs) fun x => ?_
  show x ∈ Lib.compactUpTo m.toArray m.length ↔ _
  rw [h2 x, riseF_iff, ← hm x]
  refine ⟨fun ⟨j, hj, e⟩ => ?_, fun hx => ?_⟩
  · rw [getElem!_pos m.toArray j (by simpa using hj)] at e
    subst e
    simp
  · obtain ⟨j, hj, e⟩ := List.getElem_of_mem hx
    exact ⟨j, hj, by rw [getElem!_pos m.toArray j (by simpa using hj)]; simpa using e⟩
end Go.Proofs.YtfcaebceklhbkaaDoor

/-
  DERIVED: THE SHELF's CONTRACTS AT THIS DUMP, IN PLAIN WORDS (tools/lay-plain.mjs out of 'TrydSort.lean', which tools/lay-shelf.mjs wrote): THE SAME DECLARATIONS UNDER THE SAME NAMES: 'import', 'namespace', 'open', 'def', 'theorem' AND NOTHING ELSE: no command of the shelf's: FOR A HAND-IN. Each laying: the table of numbers ('.._ren') and one theorem, a field a fact of the dump's own or the kernel's comparison; each contract: ONE APPLICATION.
-/
namespace Go.Proofs
open Go.Shelf
def Tryd.lsort_ren : Go.Shelf.Ren := ⟨fun | 5 => 39 | 8 => 56 | 7 => 55 | 19 => 74 | 20 => 75 | 10 => 65 | 11 => 66 | 12 => 67 | 13 => 68 | 14 => 69 | 15 => 70 | 16 => 71 | 17 => 72 | 18 => 73 | 30 => 83 | 31 => 84 | 32 => 85 | 33 => 86 | 34 => 87 | 35 => 88 | 40 => 93 | n => n, fun | 23 => 22 | 25 => 2 | 3 => 3 | 32 => 119 | 22 => 22 | 0 => 0 | 44 => 137 | 46 => 139 | 4 => 4 | 36 => 130 | 35 => 129 | 41 => 109 | 5 => 5 | 9 => 9 | 53 => 152 | 57 => 156 | 63 => 159 | 64 => 160 | n => n, fun | n => n⟩
theorem Tryd.lsort : Go.Proofs.SlLaysM.n5 Tryd.prog Tryd.lsort_ren := {
  mixed := by kernel_rfl
  f5 := ⟨Tryd.f39.name, by decide, Tryd.func39.trans (congrArg some (by kernel_rfl))⟩
  f7 := ⟨Tryd.f55.name, by decide, Tryd.func55.trans (congrArg some (by kernel_rfl))⟩
  f8 := Tryd.func56.trans (congrArg some (by kernel_rfl))
  f10 := ⟨Tryd.f65.name, by decide, Tryd.func65.trans (congrArg some (by kernel_rfl))⟩
  f11 := ⟨Tryd.f66.name, by decide, Tryd.func66.trans (congrArg some (by kernel_rfl))⟩
  f12 := ⟨Tryd.f67.name, by decide, Tryd.func67.trans (congrArg some (by kernel_rfl))⟩
  f13 := ⟨Tryd.f68.name, by decide, Tryd.func68.trans (congrArg some (by kernel_rfl))⟩
  f14 := ⟨Tryd.f69.name, by decide, Tryd.func69.trans (congrArg some (by kernel_rfl))⟩
  f15 := ⟨Tryd.f70.name, by decide, Tryd.func70.trans (congrArg some (by kernel_rfl))⟩
  f16 := ⟨Tryd.f71.name, by decide, Tryd.func71.trans (congrArg some (by kernel_rfl))⟩
  f17 := ⟨Tryd.f72.name, by decide, Tryd.func72.trans (congrArg some (by kernel_rfl))⟩
  f18 := ⟨Tryd.f73.name, by decide, Tryd.func73.trans (congrArg some (by kernel_rfl))⟩
  f19 := Tryd.func74.trans (congrArg some (by kernel_rfl))
  f20 := Tryd.func75.trans (congrArg some (by kernel_rfl))
  f30 := ⟨Tryd.f83.name, by decide, Tryd.func83.trans (congrArg some (by kernel_rfl))⟩
  f31 := Tryd.func84.trans (congrArg some (by kernel_rfl))
  f32 := Tryd.func85.trans (congrArg some (by kernel_rfl))
  f33 := ⟨Tryd.f86.name, by decide, Tryd.func86.trans (congrArg some (by kernel_rfl))⟩
  f34 := ⟨Tryd.f87.name, by decide, Tryd.func87.trans (congrArg some (by kernel_rfl))⟩
  f35 := ⟨Tryd.f88.name, by decide, Tryd.func88.trans (congrArg some (by kernel_rfl))⟩
  f40 := ⟨Tryd.f93.name, by decide, Tryd.func93.trans (congrArg some (by kernel_rfl))⟩
  t0 := Tryd.underlying0
  a0 := Tryd.isAgg0
  z0 := Tryd.sizeOf0
  v0 := Tryd.zeroValue0
  t3 := Tryd.underlying3
  a3 := Tryd.isAgg3
  z3 := Tryd.sizeOf3
  v3 := Tryd.zeroValue3
  t4 := Tryd.underlying4
  a4 := Tryd.isAgg4
  z4 := Tryd.sizeOf4
  v4 := Tryd.zeroValue4
  t5 := Tryd.underlying5
  a5 := Tryd.isAgg5
  z5 := Tryd.sizeOf5
  v5 := Tryd.zeroValue5
  t9 := Tryd.underlying9
  a9 := Tryd.isAgg9
  z9 := Tryd.sizeOf9
  v9 := Tryd.zeroValue9
  t22 := Tryd.underlying22
  a22 := Tryd.isAgg22
  z22 := Tryd.sizeOf22
  v22 := Tryd.zeroValue22
  t23 := Tryd.underlying22
  a23 := Tryd.isAgg22
  z23 := Tryd.sizeOf22
  v23 := Tryd.zeroValue22
  t25 := Tryd.underlying2
  a25 := Tryd.isAgg2
  z25 := Tryd.sizeOf2
  v25 := Tryd.zeroValue2
  t32 := Tryd.underlying119
  a32 := Tryd.isAgg119
  z32 := Tryd.sizeOf119
  v32 := Tryd.zeroValue119
  t35 := Tryd.underlying129
  a35 := Tryd.isAgg129
  z35 := Tryd.sizeOf129
  v35 := Tryd.zeroValue129
  t36 := Tryd.underlying130
  a36 := Tryd.isAgg130
  z36 := Tryd.sizeOf130
  v36 := Tryd.zeroValue130
  t41 := Tryd.underlying109
  a41 := Tryd.isAgg109
  z41 := Tryd.sizeOf109
  v41 := Tryd.zeroValue109
  t44 := Tryd.underlying137
  a44 := Tryd.isAgg137
  z44 := Tryd.sizeOf137
  v44 := Tryd.zeroValue137
  t46 := Tryd.underlying139
  a46 := Tryd.isAgg139
  z46 := Tryd.sizeOf139
  v46 := Tryd.zeroValue139
  t53 := Tryd.underlying152
  a53 := Tryd.isAgg152
  z53 := Tryd.sizeOf152
  v53 := Tryd.zeroValue152
  t57 := Tryd.underlying156
  a57 := Tryd.isAgg156
  z57 := Tryd.sizeOf156
  v57 := Tryd.zeroValue156
  t63 := Tryd.underlying159
  a63 := Tryd.isAgg159
  z63 := Tryd.sizeOf159
  v63 := Tryd.zeroValue159
  t64 := Tryd.underlying160
  a64 := Tryd.isAgg160
  z64 := Tryd.sizeOf160
  v64 := Tryd.zeroValue160 }
def Tryd.lcompact_ren : Go.Shelf.Ren := ⟨fun | 43 => 41 | n => n, fun | 22 => 22 | 23 => 2 | 3 => 3 | 4 => 4 | 0 => 0 | n => n, fun | n => n⟩
theorem Tryd.lcompact : Go.Proofs.SlLaysN.n43 Tryd.prog Tryd.lcompact_ren := {
  mixed := by kernel_rfl
  f43 := ⟨Tryd.f41.name, by decide, Tryd.func41.trans (congrArg some (by kernel_rfl))⟩
  t0 := Tryd.underlying0
  a0 := Tryd.isAgg0
  z0 := Tryd.sizeOf0
  v0 := Tryd.zeroValue0
  t3 := Tryd.underlying3
  a3 := Tryd.isAgg3
  z3 := Tryd.sizeOf3
  v3 := Tryd.zeroValue3
  t4 := Tryd.underlying4
  a4 := Tryd.isAgg4
  z4 := Tryd.sizeOf4
  v4 := Tryd.zeroValue4
  t22 := Tryd.underlying22
  a22 := Tryd.isAgg22
  z22 := Tryd.sizeOf22
  v22 := Tryd.zeroValue22
  t23 := Tryd.underlying2
  a23 := Tryd.isAgg2
  z23 := Tryd.sizeOf2
  v23 := Tryd.zeroValue2
  i23 := by kernel_rfl }
def Tryd.lsearch_ren : Go.Shelf.Ren := ⟨fun | 49 => 57 | 59 => 71 | 60 => 76 | 68 => 88 | n => n, fun | 22 => 22 | 23 => 2 | 3 => 3 | 4 => 4 | 51 => 119 | 0 => 0 | n => n, fun | n => n⟩
theorem Tryd.lsearch : Go.Proofs.SlLaysN.n49 Tryd.prog Tryd.lsearch_ren := {
  mixed := by kernel_rfl
  f49 := ⟨Tryd.f57.name, by decide, Tryd.func57.trans (congrArg some (by kernel_rfl))⟩
  f59 := ⟨Tryd.f71.name, by decide, Tryd.func71.trans (congrArg some (by kernel_rfl))⟩
  f60 := ⟨Tryd.f76.name, by decide, Tryd.func76.trans (congrArg some (by kernel_rfl))⟩
  f68 := ⟨Tryd.f88.name, by decide, Tryd.func88.trans (congrArg some (by kernel_rfl))⟩
  t0 := Tryd.underlying0
  a0 := Tryd.isAgg0
  z0 := Tryd.sizeOf0
  v0 := Tryd.zeroValue0
  t3 := Tryd.underlying3
  a3 := Tryd.isAgg3
  z3 := Tryd.sizeOf3
  v3 := Tryd.zeroValue3
  t4 := Tryd.underlying4
  a4 := Tryd.isAgg4
  z4 := Tryd.sizeOf4
  v4 := Tryd.zeroValue4
  t22 := Tryd.underlying22
  a22 := Tryd.isAgg22
  z22 := Tryd.sizeOf22
  v22 := Tryd.zeroValue22
  t23 := Tryd.underlying2
  a23 := Tryd.isAgg2
  z23 := Tryd.sizeOf2
  v23 := Tryd.zeroValue2
  t51 := Tryd.underlying119
  a51 := Tryd.isAgg119
  z51 := Tryd.sizeOf119
  v51 := Tryd.zeroValue119 }
def Tryd.ldelete_ren : Go.Shelf.Ren := ⟨fun | 45 => 59 | n => n, fun | 22 => 22 | 23 => 2 | 3 => 3 | 4 => 4 | 0 => 0 | n => n, fun | n => n⟩
theorem Tryd.ldelete : Go.Proofs.SlLaysN.n45 Tryd.prog Tryd.ldelete_ren := {
  mixed := by kernel_rfl
  f45 := ⟨Tryd.f59.name, by decide, Tryd.func59.trans (congrArg some (by kernel_rfl))⟩
  t0 := Tryd.underlying0
  a0 := Tryd.isAgg0
  z0 := Tryd.sizeOf0
  v0 := Tryd.zeroValue0
  t3 := Tryd.underlying3
  a3 := Tryd.isAgg3
  z3 := Tryd.sizeOf3
  v3 := Tryd.zeroValue3
  t4 := Tryd.underlying4
  a4 := Tryd.isAgg4
  z4 := Tryd.sizeOf4
  v4 := Tryd.zeroValue4
  t22 := Tryd.underlying22
  a22 := Tryd.isAgg22
  z22 := Tryd.sizeOf22
  v22 := Tryd.zeroValue22
  t23 := Tryd.underlying2
  a23 := Tryd.isAgg2
  z23 := Tryd.sizeOf2
  v23 := Tryd.zeroValue2
  i23 := by kernel_rfl }
end Go.Proofs

/-
  The library's contracts for a row of the call's own: Sort, Compact, BinarySearch, Delete.
-/
namespace Go.Proofs.YtfcaebceklhbkaaDoor
open Go.RowKit
set_option linter.unusedVariables false

theorem slice_ne {so : Option Addr} {n c : Nat} (h : n ≠ 0) : Value.slice so n c ≠ .slice none 0 0 := by
  intro e
  exact h (Value.slice.inj e).2.1
theorem len0 {l : List Int} (h : l.length = 0) : l = [] := List.eq_nil_of_length_eq_zero h

def sortF (l : List Int) : List Int := l.mergeSort fun x y => decide (x ≤ y)
theorem sortF_length (l : List Int) : (sortF l).length = l.length := List.length_mergeSort l

theorem sort_row (N sc : Nat) (so : Option Addr) (l : List Int) (w : World) (hl : l.length ≤ 4000000) (hs : w.ownsRow N 2 1 (.slice so l.length sc) l.length (numV l)) :
    Calls Tryd.prog 39 #[.slice so l.length sc] w fun e w' => e = .returned (.tuple #[]) ∧ w'.ownsRow N 2 1 (.slice so l.length sc) l.length (numV (sortF l)) ∧ Below N w w' := by
  by_cases h0 : l.length = 0
  · have := len0 h0
    subst this
    refine (AnyM.slices_Sort_int_none Tryd.lsort so sc w).mono ?_
    rintro e w' ⟨rfl, rfl⟩
    exact ⟨rfl, by simpa [sortF] using hs, Below.refl _ _⟩
  · obtain ⟨g, cap, e, hg, hlt, hn, hm, _, hH⟩ := Lib.holds_of_ownsRow (enc := Value.int .i64) (zs := l) hs (slice_ne h0)
    obtain ⟨rfl, _, rfl⟩ := Value.slice.inj e
    have h := AnyM.slices_Sort_int Tryd.lsort g 0 sc l w hH hlt (by omega)
    refine Calls.mono (show Calls Tryd.prog 39 _ _ _ from h) ?_
    rintro e' w' ⟨rfl, n, os, rfl⟩
    refine ⟨rfl, ?_, ?_⟩
    · rcases hs.2 with ⟨e2, _⟩ | ⟨g2, cap2, cur, e2, hb, hh, h1, h2, h3, _⟩
      · exact absurd e2 (slice_ne h0)
      · obtain ⟨e3, _, rfl⟩ := Value.slice.inj e2
        cases e3
        exact _root_.Go.ownsRow_sortedI (ts := sortF l) (ss := l) (sortF_length l) hb hh h1 h2 h3
    · exact (Below.refl _ _).grown (_root_.Go.grownBy_sortedI _) (by omega) (fun k hk => by rw [← Option.some.inj hk]; exact hg)

theorem compact_row (N sc : Nat) (so : Option Addr) (l : List Int) (w : World) (hl : l.length ≤ 4000000) (hs : w.ownsRow N 2 1 (.slice so l.length sc) l.length (numV l)) :
    Calls Tryd.prog 41 #[.slice so l.length sc] w fun e w' => e = .returned (.slice so (Lib.compact l).length sc) ∧ w'.ownsRow N 2 1 (.slice so (Lib.compact l).length sc) (Lib.compact l).length (numV (Lib.compact l)) ∧ Below N w w' := by
  by_cases h0 : l.length = 0
  · have := len0 h0
    subst this
    refine Calls.mono (show Calls Tryd.prog 41 _ _ _ from AnyG.slices_Compact_int_empty Tryd.lcompact so sc w) ?_
    rintro e w' ⟨rfl, rfl⟩
    exact ⟨rfl, hs, Below.refl _ _⟩
  · obtain ⟨g, cap, e, hg, hlt, hn, hm, _, hH⟩ := Lib.holds_of_ownsRow (enc := Value.int .i64) (zs := l) hs (slice_ne h0)
    obtain ⟨rfl, _, rfl⟩ := Value.slice.inj e
    have h := AnyG.slices_Compact_int Tryd.lcompact g 0 sc l w hH (by omega) hn
    refine Calls.mono (show Calls Tryd.prog 41 _ _ _ from h) ?_
    rintro e' w' ⟨rfl, q, rfl⟩
    have hle : (Lib.compact l).length ≤ l.length := by
      unfold Lib.compact Lib.compactUpTo
      rw [List.length_map]
      exact Nat.le_trans (List.length_filter_le _ _) (by simp)
    refine ⟨rfl, ?_, Lib.below_putRow (Below.refl _ _) hg⟩
    have h2 := Lib.ownsRow_putRow (enc := Value.int .i64) (q := q) (zs := l) (ys := Lib.compact l ++ List.replicate (l.length - (Lib.compact l).length) 0) (k := (Lib.compact l).length) hs (by simp; omega) hle
    rw [List.take_left] at h2
    exact h2

theorem delete_row (N sc i : Nat) (so : Option Addr) (l : List Int) (w : World) (hl : l.length ≤ 4000000) (hi : i < l.length) (hs : w.ownsRow N 2 1 (.slice so l.length sc) l.length (numV l)) :
    Calls Tryd.prog 59 #[.slice so l.length sc, .int .i64 i, .int .i64 ((i : Int) + 1)] w fun e w' => ∃ v', e = .returned v' ∧ OwnNums N w' v' (l.take i ++ l.drop (i + 1)) ∧ Below N w w' ∧ w.grownBy w' (Value.slice so l.length sc).ownBlock := by
  have h0 : l.length ≠ 0 := by omega
  obtain ⟨g, cap, e, hg, hlt, hn, hm, _, hH⟩ := Lib.holds_of_ownsRow (enc := Value.int .i64) (zs := l) hs (slice_ne h0)
  obtain ⟨rfl, _, rfl⟩ := Value.slice.inj e
  have h := AnyG.slices_Delete_int Tryd.ldelete g 0 sc i (i + 1) l w hH hn (by unfold maxLen at hm; omega) (by omega) (by omega)
  have h' : Calls Tryd.prog 59 #[.slice (some ⟨g, 0, none⟩) l.length sc, .int .i64 i, .int .i64 ((i : Int) + 1)] w _ := h
  refine h'.mono ?_
  rintro e' w' ⟨rfl, q, rfl⟩
  have hlen : (l.take i ++ l.drop (i + 1)).length = l.length - 1 := by simp; omega
  have h2 := Lib.ownsRow_putRow (enc := Value.int .i64) (q := q) (zs := l) (ys := l.take i ++ l.drop (i + 1) ++ List.replicate (i + 1 - i) 0) (k := l.length - 1) hs (by simp; omega) (by omega)
  rw [← hlen, List.take_left] at h2
  refine ⟨_, rfl, ?_, Lib.below_putRow (Below.refl _ _) hg, ?_⟩
  rotate_left
  · have hgr := grownBy_sortedI (w := w) (g := g) (n := q) (os := #[]) (l.take i ++ l.drop (i + 1) ++ List.replicate (i + 1 - i) 0).toArray
    rw [Sort.grow_empty] at hgr
    exact hgr
  rw [show l.length - (i + 1 - i) = (l.take i ++ l.drop (i + 1)).length by rw [hlen]; omega]
  exact owned_nums h2

set_option maxRecDepth 100000 in
set_option maxHeartbeats 4000000 in
theorem search_nil (a : Int) (w : World) : Calls Tryd.prog 57 #[.slice none 0 0, .int .i64 a] w fun e w' => e = .returned (.tuple #[.int .i64 0, .bool false]) ∧ ∃ q, w' = w.drewN q := by
  go_enter Tryd.func57, Tryd.ntmps57
  go_wp2_with fail
  go_loopw [7, 8] (fun iv jv wr => iv = .int .i64 0 ∧ jv = .int .i64 0 ∧ wr = w) (fun _ _ _ => 0)
  case atStart => exact ⟨rfl, rfl, by first | rfl | trivial⟩
  case round =>
    obtain ⟨rfl, rfl, rfl⟩ := hrel
    go_wp2_with (go_quiet (fail))
    go_ret2
    exact ⟨rfl, 0, rfl⟩

theorem search_row (N sc : Nat) (so : Option Addr) (l : List Int) (a : Int) (w : World) (hl : l.length ≤ 4000000) (hr : Rise l) (hs : w.ownsRow N 2 1 (.slice so l.length sc) l.length (numV l)) :
    Calls Tryd.prog 57 #[.slice so l.length sc, .int .i64 a] w fun e w' => e = .returned (.tuple #[.int .i64 (below l a : Nat), .bool (decide (a ∈ l))]) ∧ ∃ q, w' = w.drewN q := by
  rcases hs.2 with ⟨e, h0⟩ | ⟨g, cap, cur, e, hg, hb, h1, h2, h3, h4⟩
  · have := len0 h0
    subst this
    obtain ⟨rfl, _, rfl⟩ := Value.slice.inj e
    refine (search_nil a w).mono ?_
    rintro e' w' ⟨rfl, q, rfl⟩
    exact ⟨rfl, q, rfl⟩
  · obtain ⟨rfl, _, rfl⟩ := Value.slice.inj e
    have hn := owned_nums hs
    have h := AnyG.slices_BinarySearch_int Tryd.lsearch g 0 l.length sc l a w (Nat.le_refl _) (by omega) (fun j hj => by
        rcases hn with ⟨e5, _⟩ | ⟨g2, o2, c2, cur2, e5, _, hb2, _, _, hx⟩
        · cases (Value.slice.inj e5).1
        · cases (Value.slice.inj e5).1
          rw [cell_of hb2]
          exact hx j hj)
      (by rw [List.take_length]; exact hr.imp (fun h => Int.le_of_lt h))
    rw [List.take_length] at h
    have h' : Calls Tryd.prog 57 #[.slice (some ⟨g, 0, none⟩) l.length sc, .int .i64 a] w _ := h
    refine h'.mono ?_
    rintro e' w' ⟨rfl, q, rfl⟩
    refine ⟨?_, q, rfl⟩
    congr 4
    simp
end Go.Proofs.YtfcaebceklhbkaaDoor

/-
  The contract of judge.set: an operation of a set whose numbers rise.
-/
namespace Go.Proofs.YtfcaebceklhbkaaDoor
open Go.RowKit
set_option linter.unusedVariables false

theorem OwnNums.set26 {N M i : Nat} {w : World} {v x : Value} {l : List Int} {cs : Array Value} (h : OwnNums N w v l) (hr : w.heap[M]? = some (.cells cs 26 (0, 0))) : OwnNums N (w.setCell ⟨M, i, none⟩ x) v l := by
  rcases h with h | ⟨g, p, c, cur, rfl, hg, hb, hc, hs, hx⟩
  · exact .inl h
  · refine .inr ⟨g, p, c, cur, rfl, hg, (Below.heap_setCell _ _ _ _ ?_).trans hb, hc, hs, hx⟩
    rintro (rfl : g = M)
    rw [hb] at hr
    cases hr
theorem fin_op {fn : Func} {u p : Tmp} (hres : fn.results = #[.tmp u, .cell p 26]) {N M : Nat} {w w5 : World} {v A B C : Value} {l : List Int} {ok : Bool} {n : Int} {act : Act} (hd : act.defers = []) (hp : act.tmps.getD p undef = .pointer (some ⟨M, 0, none⟩)) (hu : act.tmps.getD u undef = v)
    (hM : N ≤ M) (hb : Below N w w5) (hr : w5.heap[M]? = some (.cells #[A, B, C] 26 (0, 0))) (hv : OwnNums N w5 v l) (W' : World)
    (hW : W' = ((w5.setCell ⟨M, 0, none⟩ (.bool ok)).setCell ⟨M, 1, none⟩ (.int .i64 n)).setCell ⟨M, 2, none⟩ (.slice none 0 0) ∨ ∃ k, W' = (((w5.setCell ⟨M, 0, none⟩ (.bool ok)).setCell ⟨M, 1, none⟩ (.int .i64 n)).setCell ⟨M, 2, none⟩ (.slice none 0 0)).drewN k) :
    bodyPost Tryd.prog fn (DoneR N (l, ok, n) w) .ret act W' := by
  have e1 := set_at hr 0 (.bool ok)
  have e2 := set_at e1 1 (.int .i64 n)
  have e3 := set_at e2 2 (.slice none 0 0)
  have o3 := ((hv.set26 (i := 0) (x := .bool ok) hr).set26 (i := 1) (x := .int .i64 n) e1).set26 (i := 2) (x := .slice none 0 0) e2
  have b3 := ((hb.setCell (p := ⟨M, 0, none⟩) hM (.bool ok)).setCell (p := ⟨M, 1, none⟩) hM (.int .i64 n)).setCell (p := ⟨M, 2, none⟩) hM (.slice none 0 0)
  generalize ((w5.setCell ⟨M, 0, none⟩ (.bool ok)).setCell ⟨M, 1, none⟩ (.int .i64 n)).setCell ⟨M, 2, none⟩ (.slice none 0 0) = w6 at *
  have e6 : W'.heap[M]? = some (.cells #[.bool ok, .int .i64 n, .slice none 0 0] 26 (0, 0)) := by
    rcases hW with rfl | ⟨k, rfl⟩
    · exact e3
    · exact e3
  have o6 : OwnNums N W' v l := by
    rcases hW with rfl | ⟨k, rfl⟩
    · exact o3
    · exact o3
  have b6 : Below N w W' := by
    rcases hW with rfl | ⟨k, rfl⟩
    · exact b3
    · exact below_drewN b3 k
  obtain ⟨tmps, defers⟩ := act
  subst hd
  have hh := results_tmp_cell (fn := fn) (p := p) (u := u) (ty := 26) hres tmps Tryd.prog W' _ ⟨M, 0, none⟩ hp (load_ans W' M _ _ _ ((cell_of e6 0).trans rfl) ((cell_of e6 1).trans rfl) ((cell_of e6 2).trans rfl))
  rw [hu] at hh
  exact bodyPost_ret hh rfl ⟨v, rfl, o6, b6⟩

/-- An operation of a set whose numbers rise. -/
def setRF (r : List Int) (k a : Int) : List Int × Bool × Int :=
  if k = 1 then (r, decide (a ∈ r), 0) else if k = 2 then (putS a r, !decide (a ∈ r), 0) else if k = 3 then (r.filter (· ≠ a), decide (a ∈ r), 0) else (r, false, 0)
theorem putS_in {r : List Int} {a : Int} (h : Rise r) (ha : a ∈ r) : putS a r = r :=
  rise_eq (putS_rise h) h fun x => by rw [putS_mem_iff h]; exact ⟨fun hx => by rcases hx with e | e; exact e ▸ ha; exact e, .inr⟩
theorem filter_out {r : List Int} {a : Int} (ha : a ∉ r) : r.filter (· ≠ a) = r := by
  rw [List.filter_eq_self]
  intro x hx
  simp
  exact fun e => ha (e ▸ hx)

set_option maxRecDepth 100000 in
set_option maxHeartbeats 8000000 in
theorem set_walk (N sc : Nat) (so : Option Addr) (r : List Int) (k a b c : Int) (w : World) (hN : N ≤ w.heap.size) (hr : Rise r) (hl : r.length ≤ 4000000) (hs : w.ownsRow N 2 1 (.slice so r.length sc) r.length (numV r)) :
    Calls Tryd.prog 40 #[.slice so r.length sc, opV k a b c] w (DoneR N (setRF r k a) w) := by
  have HR := Lib.hid hr
  have HR2 := Lib.hid ((hs.alloc (.cells #[.int .i64 k, .int .i64 a, .int .i64 b, .int .i64 c] 31)).alloc (.cells #[.bool false, .int .i64 0, .slice none 0 0] 26))
  have HB2 : Hid (Below N w ((w.alloc (.cells #[.int .i64 k, .int .i64 a, .int .i64 b, .int .i64 c] 31)).alloc (.cells #[.bool false, .int .i64 0, .slice none 0 0] 26))) := (below_two _ _ _).mono hN
  have hop : ((w.alloc (.cells #[.int .i64 k, .int .i64 a, .int .i64 b, .int .i64 c] 31)).alloc (.cells #[.bool false, .int .i64 0, .slice none 0 0] 26)).heap[w.heap.size]? = some (.cells #[.int .i64 k, .int .i64 a, .int .i64 b, .int .i64 c] 31 (0, 0)) := by
    rw [Below.heap_alloc _ _ _ (by simp)]
    exact heap_alloc_new w _
  have hrs : ((w.alloc (.cells #[.int .i64 k, .int .i64 a, .int .i64 b, .int .i64 c] 31)).alloc (.cells #[.bool false, .int .i64 0, .slice none 0 0] 26)).heap[w.heap.size + 1]? = some (.cells #[.bool false, .int .i64 0, .slice none 0 0] 26 (0, 0)) := by
    have := heap_alloc_new (w.alloc (.cells #[.int .i64 k, .int .i64 a, .int .i64 b, .int .i64 c] 31)) (.cells #[.bool false, .int .i64 0, .slice none 0 0] 26)
    simpa using this
  have hw2 : ((w.alloc (.cells #[.int .i64 k, .int .i64 a, .int .i64 b, .int .i64 c] 31)).alloc (.cells #[.bool false, .int .i64 0, .slice none 0 0] 26)).heap.size = w.heap.size + 2 := by simp
  have HOP := Lib.hid hop
  have HRS := Lib.hid hrs
  have HW2 := Lib.hid hw2
  have HNE : Hid ((Value.slice so r.length sc).ownBlock ≠ some (w.heap.size + 1)) := fun e => by have := (row_block hs e).2; omega
  have HLT : Hid (∀ g, (Value.slice so r.length sc).ownBlock = some g → g < w.heap.size) := fun g e => (row_block hs e).2
  clear hs hr hop hrs hw2
  unfold opV
  go_enter Tryd.func40, Tryd.ntmps40
  go_wp2_with fail
  generalize (w.alloc (.cells #[.int .i64 k, .int .i64 a, .int .i64 b, .int .i64 c] 31)).alloc (.cells #[.bool false, .int .i64 0, .slice none 0 0] 26) = w2 at *
  obtain ⟨D, hD⟩ : ∃ D, decide (a ∈ r) = D := ⟨_, rfl⟩
  have HD := Lib.hid hD
  have h57 : Calls Tryd.prog 57 #[.slice so r.length sc, .int .i64 a] w2 fun e w' => e = .returned (.tuple #[.int .i64 (below r a : Nat), .bool D]) ∧ ∃ q, w' = w2.drewN q := by
    rw [← hD]
    exact search_row N sc so r a w2 hl HR.out HR2.out
  clear hD
  refine h57.mono ?_
  clear h57
  rintro e w3 ⟨rfl, q, rfl⟩
  have HR3 : Hid ((w2.drewN q).ownsRow N 2 1 (.slice so r.length sc) r.length (numV r)) := HR2.out
  have HB3 : Hid (Below N w (w2.drewN q)) := below_drewN HB2.out q
  have hop3 : (w2.drewN q).heap[w.heap.size]? = some (.cells #[.int .i64 k, .int .i64 a, .int .i64 b, .int .i64 c] 31 (0, 0)) := HOP.out
  have hrs3 : (w2.drewN q).heap[w.heap.size + 1]? = some (.cells #[.bool false, .int .i64 0, .slice none 0 0] 26 (0, 0)) := HRS.out
  have hw3 : (w2.drewN q).heap.size = w.heap.size + 2 := HW2.out
  have HRS3 := Lib.hid hrs3
  have HW3 := Lib.hid hw3
  have c0 := (cell_of hop3 0).trans rfl
  have c1 := (cell_of hop3 1).trans rfl
  have t0 := (cell_of hrs3 0).trans rfl
  have t1 := (cell_of hrs3 1).trans rfl
  have t2 := (cell_of hrs3 2).trans rfl
  have t3 := free_of hrs3 0
  have t4 := free_of hrs3 1
  have t5 := free_of hrs3 2
  clear hop3 hrs3 hw3 HR2 HB2 HOP HRS HW2
  generalize w2.drewN q = w3 at *
  have HO3 := Lib.hid (owned_nums HR3.out)
  by_cases hk1 : k = 1
  · have hF := Lib.hid (show setRF r k a = (r, D, 0) from by rw [← HD.out]; simp [setRF, hk1])
    subst hk1
    go_wp2_with fail
    all_goals (try simp only [Exit.inBlock, Exit.then])
    rw [hF.out]
    exact fin_op (fn := Tryd.f40) (u := 4) (p := 5) (v := .slice so r.length sc) rfl rfl rfl rfl (by omega) HB3.out HRS3.out HO3.out _ (.inl rfl)
  · have e1 : (k == 1) = false := by rw [beq_eq_false_iff_ne]; exact hk1
    by_cases hk2 : k = 2
    · subst hk2
      cases D with
      | true =>
        have ha : a ∈ r := of_decide_eq_true HD.out
        have hF := Lib.hid (show setRF r 2 a = (r, false, 0) from by simp [setRF, ha, putS_in HR.out ha])
        clear ha
        go_wp2_with fail
        all_goals (try simp only [Exit.inBlock, Exit.then])
        rw [hF.out]
        exact fin_op (fn := Tryd.f40) (u := 4) (p := 5) (v := .slice so r.length sc) rfl rfl rfl rfl (by omega) HB3.out HRS3.out HO3.out _ (.inl rfl)
      | false =>
        have ha : a ∉ r := of_decide_eq_false HD.out
        have hF := Lib.hid (show setRF r 2 a = (insF r (below r a) a, true, 0) from by simp [setRF, ha, insF_put HR.out ha])
        have HA4 := Lib.hid (heap_alloc_new w3 (.cells #[.int .i64 a] 2))
        have HR4 := Lib.hid (HR3.out.alloc (.cells #[.int .i64 a] 2))
        have HNE4 : Hid ((Value.slice so r.length sc).ownBlock ≠ some w3.heap.size) := fun e => by have := HLT.out _ e; have := HW3.out; omega
        have hbl : below r a ≤ r.length := below_le r a
        clear ha
        go_wp2_with fail
        refine (insert_walk N sc (below r a) w3.heap.size so a r _ hl hbl HR4.out (by have := HW3.out; simp; omega) HNE4.out HA4.out).mono ?_
        rintro e w5 ⟨v5, rfl, ho5, hb5, hg5⟩
        have HO5 := Lib.hid ho5
        have HB5 : Hid (Below N w w5) := (HB3.out.alloc (by have := HW3.out; omega) _).trans hb5
        have hb5x : w5.heap[w.heap.size + 1]? = some (.cells #[.bool false, .int .i64 0, .slice none 0 0] 26 (0, 0)) :=
          (hg5.block _ (by have := HW3.out; simp; omega) (fun e => HNE.out e.symm)).trans ((Below.heap_alloc _ _ _ (by have := HW3.out; omega)).trans HRS3.out)
        have HRS5 := Lib.hid hb5x
        have s0 := (cell_of hb5x 0).trans rfl
        have s1 := (cell_of hb5x 1).trans rfl
        have s2 := (cell_of hb5x 2).trans rfl
        have s3 := free_of hb5x 0
        have s4 := free_of hb5x 1
        have s5 := free_of hb5x 2
        clear hb5x ho5 hb5 hg5 t0 t1 t2 t3 t4 t5
        go_wp2_with fail
        all_goals (try simp only [Exit.inBlock, Exit.then])
        rw [hF.out]
        exact fin_op (fn := Tryd.f40) (u := 4) (p := 5) (v := v5) rfl rfl rfl rfl (by omega) HB5.out HRS5.out HO5.out _ (.inl rfl)
    · have e2 : (k == 2) = false := by rw [beq_eq_false_iff_ne]; exact hk2
      by_cases hk3 : k = 3
      · subst hk3
        cases D with
        | false =>
          have ha : a ∉ r := of_decide_eq_false HD.out
          have hF := Lib.hid (show setRF r 3 a = (r, false, 0) from by simp [setRF, ha]; exact fun x hx e => ha (e ▸ hx))
          clear ha
          go_wp2_with fail
          all_goals (try simp only [Exit.inBlock, Exit.then])
          rw [hF.out]
          exact fin_op (fn := Tryd.f40) (u := 4) (p := 5) (v := .slice so r.length sc) rfl rfl rfl rfl (by omega) HB3.out HRS3.out HO3.out _ (.inl rfl)
        | true =>
          have ha : a ∈ r := of_decide_eq_true HD.out
          have hlt := (below_at HR.out ha).1
          have hF := Lib.hid (show setRF r 3 a = (r.take (below r a) ++ r.drop (below r a + 1), true, 0) from by rw [del_filter HR.out ha]; simp [setRF, ha])
          clear ha
          go_wp2_with fail
          refine (delete_row N sc (below r a) so r w3 hl hlt HR3.out).mono ?_
          rintro e w5 ⟨v5, rfl, ho5, hb5, hg5⟩
          have HO5 := Lib.hid ho5
          have HB5 : Hid (Below N w w5) := HB3.out.trans hb5
          have hb5x : w5.heap[w.heap.size + 1]? = some (.cells #[.bool false, .int .i64 0, .slice none 0 0] 26 (0, 0)) :=
            (hg5.block _ (by have := HW3.out; omega) (fun e => HNE.out e.symm)).trans HRS3.out
          have HRS5 := Lib.hid hb5x
          have s0 := (cell_of hb5x 0).trans rfl
          have s1 := (cell_of hb5x 1).trans rfl
          have s2 := (cell_of hb5x 2).trans rfl
          have s3 := free_of hb5x 0
          have s4 := free_of hb5x 1
          have s5 := free_of hb5x 2
          clear hb5x ho5 hb5 hg5 t0 t1 t2 t3 t4 t5
          go_wp2_with fail
          all_goals (try simp only [Exit.inBlock, Exit.then])
          rw [hF.out]
          exact fin_op (fn := Tryd.f40) (u := 4) (p := 5) (v := v5) rfl rfl rfl rfl (by omega) HB5.out HRS5.out HO5.out _ (.inl rfl)
      · have e3 : (k == 3) = false := by rw [beq_eq_false_iff_ne]; exact hk3
        have hF := Lib.hid (show setRF r k a = (r, false, 0) from by simp [setRF, hk1, hk2, hk3])
        go_wp2_with fail
        all_goals (try simp only [Exit.inBlock, Exit.then])
        rw [hF.out]
        exact fin_op (fn := Tryd.f40) (u := 4) (p := 5) (v := .slice so r.length sc) rfl rfl rfl rfl (by omega) HB3.out HRS3.out HO3.out _ (.inl rfl)
end Go.Proofs.YtfcaebceklhbkaaDoor
