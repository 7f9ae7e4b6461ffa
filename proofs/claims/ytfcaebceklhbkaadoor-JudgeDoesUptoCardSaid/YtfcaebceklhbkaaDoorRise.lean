/-
  Strictly rising lists of numbers, in plain Lean. No program in sight.
-/
import Derived.Test.YtfcaebceklhbkaaDoorInsert
import Derived.Test.YtfcaebceklhbkaaDoorRefPut
import Derived.Test.YtfcaebceklhbkaaDoorSortL
namespace Go.Proofs.YtfcaebceklhbkaaDoor
open Go.RowKit
set_option linter.unusedVariables false

abbrev Rise (l : List Int) : Prop := l.Pairwise (· < ·)
theorem rise_eq : ∀ {l m : List Int}, Rise l → Rise m → (∀ x, x ∈ l ↔ x ∈ m) → l = m
  | [], [], _, _, _ => rfl
  | [], y :: m, _, _, h => by have := (h y).2 List.mem_cons_self; cases this
  | x :: l, [], _, _, h => by have := (h x).1 List.mem_cons_self; cases this
  | x :: l, y :: m, hl, hm, h => by
    obtain ⟨h1, h2⟩ := List.pairwise_cons.1 hl
    obtain ⟨h3, h4⟩ := List.pairwise_cons.1 hm
    have exy : x = y := by
      rcases List.mem_cons.1 ((h x).1 List.mem_cons_self) with e | e
      · exact e
      · rcases List.mem_cons.1 ((h y).2 List.mem_cons_self) with e2 | e2
        · exact e2.symm
        · have := h3 x e
          have := h1 y e2
          omega
    subst exy
    congr 1
    refine rise_eq h2 h4 fun z => ⟨fun hz => ?_, fun hz => ?_⟩
    · rcases List.mem_cons.1 ((h z).1 (List.mem_cons_of_mem _ hz)) with e | e
      · have := h1 z hz; omega
      · exact e
    · rcases List.mem_cons.1 ((h z).2 (List.mem_cons_of_mem _ hz)) with e | e
      · have := h3 z hz; omega
      · exact e
theorem putS_mem_iff {v x : Int} : ∀ {l : List Int}, Rise l → (x ∈ putS v l ↔ x = v ∨ x ∈ l)
  | [], _ => by simp [putS]
  | y :: l, h => by
    obtain ⟨h1, h2⟩ := List.pairwise_cons.1 h
    simp only [putS]
    split
    · rw [List.mem_cons, putS_mem_iff h2, List.mem_cons]
      exact ⟨fun h => by rcases h with h | h | h <;> simp [h], fun h => by rcases h with h | h | h <;> simp [h]⟩
    · split
      · rename_i e
        subst e
        simp
      · simp
theorem putS_rise {v : Int} : ∀ {l : List Int}, Rise l → Rise (putS v l)
  | [], _ => by simp [putS]
  | y :: l, h => by
    obtain ⟨h1, h2⟩ := List.pairwise_cons.1 h
    simp only [putS]
    split
    · rename_i hlt
      refine List.pairwise_cons.2 ⟨fun z hz => ?_, putS_rise h2⟩
      rcases putS_mem hz with e | e
      · omega
      · exact h1 z e
    · split
      · exact h
      · refine List.pairwise_cons.2 ⟨fun z hz => ?_, h⟩
        rcases List.mem_cons.1 hz with e | e
        · omega
        · have := h1 z e; omega
theorem rise_fold : ∀ (s l : List Int), Rise l → Rise (s.foldl (fun l v => putS v l) l) ∧ ∀ x, x ∈ s.foldl (fun l v => putS v l) l ↔ x ∈ s ∨ x ∈ l
  | [], l, h => ⟨h, fun x => by simp⟩
  | v :: s, l, h => by
    obtain ⟨h1, h2⟩ := rise_fold s (putS v l) (putS_rise h)
    refine ⟨h1, fun x => ?_⟩
    show x ∈ s.foldl (fun l v => putS v l) (putS v l) ↔ _
    rw [h2 x, putS_mem_iff h, List.mem_cons]
    exact ⟨fun h => by rcases h with h | h | h <;> simp [h], fun h => by rcases h with (h | h) | h <;> simp [h]⟩
theorem riseF_rise (s : List Int) : Rise (riseF s) := (rise_fold s [] List.Pairwise.nil).1
theorem riseF_iff (s : List Int) (x : Int) : x ∈ riseF s ↔ x ∈ s := by
  have := (rise_fold s [] List.Pairwise.nil).2 x
  simp only [List.not_mem_nil, or_false] at this
  exact this
/-- How many are less: where a number stands, or would stand. -/
def below (r : List Int) (a : Int) : Nat := r.countP (fun x => decide (x < a))
theorem below_le (r : List Int) (a : Int) : below r a ≤ r.length := List.countP_le_length
theorem rise_split : ∀ {r : List Int} (a : Int), Rise r → (∀ x ∈ r.take (below r a), x < a) ∧ (∀ x ∈ r.drop (below r a), a ≤ x)
  | [], a, _ => by simp [below]
  | y :: r, a, h => by
    obtain ⟨h1, h2⟩ := List.pairwise_cons.1 h
    obtain ⟨h3, h4⟩ := rise_split a h2
    by_cases hy : y < a
    · have e : below (y :: r) a = below r a + 1 := by simp [below, hy]
      rw [e, List.take_succ_cons, List.drop_succ_cons]
      refine ⟨fun x hx => ?_, h4⟩
      rcases List.mem_cons.1 hx with e | e
      · omega
      · exact h3 x e
    · have hz : ∀ x ∈ y :: r, ¬ x < a := by
        intro x hx
        rcases List.mem_cons.1 hx with e | e
        · omega
        · have := h1 x e; omega
      have e : below (y :: r) a = 0 := by
        unfold below
        rw [List.countP_eq_zero]
        intro x hx
        simpa using hz x hx
      rw [e]
      simp only [List.take_zero, List.not_mem_nil, false_implies, implies_true, List.drop_zero, true_and]
      intro x hx
      have := hz x hx
      omega
theorem insF_put {r : List Int} {a : Int} (h : Rise r) (ha : a ∉ r) : insF r (below r a) a = putS a r := by
  obtain ⟨h1, h2⟩ := rise_split a h
  have h2' : ∀ x ∈ r.drop (below r a), a < x := fun x hx => by
    have := h2 x hx
    have : x ≠ a := fun e => ha (e ▸ List.mem_of_mem_drop hx)
    omega
  refine rise_eq ?_ (putS_rise h) fun x => ?_
  · unfold insF
    refine List.pairwise_append.2 ⟨h.sublist (List.take_sublist _ _), List.pairwise_cons.2 ⟨h2', h.sublist (List.drop_sublist _ _)⟩, fun x hx y hy => ?_⟩
    have := h1 x hx
    rcases List.mem_cons.1 hy with e | e
    · omega
    · have := h2' y e; omega
  · rw [putS_mem_iff h]
    have hr : x ∈ r ↔ x ∈ r.take (below r a) ∨ x ∈ r.drop (below r a) := by rw [← List.mem_append, List.take_append_drop]
    rw [hr]
    simp only [insF, List.mem_append, List.mem_cons]
    exact ⟨fun h => by rcases h with h | h | h <;> simp [h], fun h => by rcases h with h | h | h <;> simp [h]⟩
theorem below_at {r : List Int} {a : Int} (h : Rise r) (ha : a ∈ r) : below r a < r.length ∧ r.drop (below r a) = a :: r.drop (below r a + 1) := by
  obtain ⟨h1, h2⟩ := rise_split a h
  have hd : a ∈ r.drop (below r a) := by
    have : a ∈ r.take (below r a) ++ r.drop (below r a) := by rw [List.take_append_drop]; exact ha
    rcases List.mem_append.1 this with e | e
    · have := h1 a e; omega
    · exact e
  have hlt : below r a < r.length := by
    rcases Nat.lt_or_ge (below r a) r.length with h | h
    · exact h
    · rw [List.drop_of_length_le h] at hd; cases hd
  refine ⟨hlt, ?_⟩
  have e := List.drop_eq_getElem_cons hlt
  have hs : Rise (r.drop (below r a)) := h.sublist (List.drop_sublist _ _)
  rw [e] at hd hs h2 ⊢
  congr 1
  rcases List.mem_cons.1 hd with e2 | e2
  · exact e2.symm
  · have h3 := (List.pairwise_cons.1 hs).1 a e2
    have h4 := h2 _ List.mem_cons_self
    omega
theorem del_filter {r : List Int} {a : Int} (h : Rise r) (ha : a ∈ r) : r.take (below r a) ++ r.drop (below r a + 1) = r.filter (· ≠ a) := by
  obtain ⟨h1, h2⟩ := rise_split a h
  obtain ⟨_, e⟩ := below_at h ha
  have hs : Rise (r.drop (below r a)) := h.sublist (List.drop_sublist _ _)
  rw [e] at hs
  have h3 := (List.pairwise_cons.1 hs).1
  have e2 : r = r.take (below r a) ++ a :: r.drop (below r a + 1) := by rw [← e, List.take_append_drop]
  conv => rhs; rw [e2]
  rw [List.filter_append, List.filter_cons, if_neg (by simp), List.filter_eq_self.2, List.filter_eq_self.2]
  · intro x hx
    have := h3 x hx
    simp; omega
  · intro x hx
    have := h1 x hx
    simp; omega

/-- The document's put, of a rising list. -/
theorem putAt_inv {l : List Int} {v : Int} (h : Rise l) : ∀ j, j ≤ l.length → Rise (putAt l v j).1 ∧ (∀ x ∈ (putAt l v j).1, ∀ y ∈ l.drop j, x < y ∨ (x = v ∧ x ≤ y)) ∧ ((putAt l v j).2 = false → ∀ x ∈ (putAt l v j).1, x < v) ∧ ((putAt l v j).2 = true → v ∈ (putAt l v j).1 ∧ ∀ y ∈ l.drop j, v < y) ∧
    (∀ x ∈ (putAt l v j).1, x = v ∨ x ∈ l) ∧ (∀ x ∈ l.take j, x ∈ (putAt l v j).1)
  | 0, _ => by simp [putAt]
  | j + 1, hj => by
    obtain ⟨i1, i2, i3, i4, i5, i6⟩ := putAt_inv h (v := v) j (by omega)
    have hlt : j < l.length := by omega
    have hy : l.getD j 0 = l[j] := by simp [List.getD, hlt]
    have hd := List.drop_eq_getElem_cons hlt
    have hs : Rise (l.drop j) := h.sublist (List.drop_sublist _ _)
    rw [hd] at hs i2 i4
    have hlater := (List.pairwise_cons.1 hs).1
    have ht : l.take (j + 1) = l.take j ++ [l[j]] := by rw [List.take_add_one, List.getElem?_eq_getElem hlt]; rfl
    have hin : l[j] ∈ l := List.getElem_mem _
    simp only [putAt, hy]
    rw [ht]
    generalize putAt l v j = p at *
    generalize l[j] = y at *
    generalize l.drop (j + 1) = D at *
    obtain ⟨r, d⟩ := p
    simp only at i1 i2 i3 i4 i5 i6 ⊢
    have hsn : ∀ z : Int, (∀ x ∈ r, x < z) → Rise (r ++ [z]) := fun z hz => List.pairwise_append.2 ⟨i1, by simp, fun a ha b hb => by simp at hb; subst hb; exact hz a ha⟩
    by_cases e1 : y = v
    · subst e1
      rw [if_pos rfl]
      have hd0 : d = false := by
        cases d with
        | false => rfl
        | true => have := (i4 rfl).2 y List.mem_cons_self; omega
      have hr := i3 hd0
      refine ⟨hsn y hr, fun x hx z hz => ?_, by simp, fun _ => ⟨by simp, hlater⟩, fun x hx => ?_, fun x hx => ?_⟩
      · have := hlater z hz
        rcases List.mem_append.1 hx with e | e
        · have := hr x e; omega
        · simp at e; omega
      · rcases List.mem_append.1 hx with e | e
        · exact i5 x e
        · simp at e; exact .inl e
      · rcases List.mem_append.1 hx with e | e
        · exact List.mem_append.2 (.inl (i6 x e))
        · exact List.mem_append.2 (.inr e)
    · rw [if_neg e1]
      by_cases e2 : y > v ∧ d = false
      · rw [if_pos e2]
        obtain ⟨e2, rfl⟩ := e2
        have hr := i3 rfl
        refine ⟨?_, fun x hx z hz => ?_, by simp, fun _ => ⟨by simp, fun z hz => by have := hlater z hz; omega⟩, fun x hx => ?_, fun x hx => ?_⟩
        · refine List.pairwise_append.2 ⟨hsn v hr, by simp, fun a ha b hb => ?_⟩
          simp at hb
          subst hb
          rcases List.mem_append.1 ha with e | e
          · have := hr a e; omega
          · simp at e; omega
        · have := hlater z hz
          simp only [List.append_assoc, List.mem_append, List.mem_cons, List.not_mem_nil, or_false] at hx
          rcases hx with e | e | e
          · have := hr x e; omega
          · omega
          · omega
        · simp only [List.append_assoc, List.mem_append, List.mem_cons, List.not_mem_nil, or_false] at hx
          rcases hx with e | e | e
          · exact i5 x e
          · exact .inl e
          · exact .inr (e ▸ hin)
        · rcases List.mem_append.1 hx with e | e
          · exact List.mem_append.2 (.inl (List.mem_append.2 (.inl (i6 x e))))
          · exact List.mem_append.2 (.inr e)
      · rw [if_neg e2]
        have hr : ∀ x ∈ r, x < y := fun x hx => by
          rcases i2 x hx y List.mem_cons_self with e | ⟨e, e'⟩
          · exact e
          · omega
        refine ⟨hsn y hr, fun x hx z hz => ?_, fun hd0 x hx => ?_, fun hd1 => ?_, fun x hx => ?_, fun x hx => ?_⟩
        · have := hlater z hz
          rcases List.mem_append.1 hx with e | e
          · have := hr x e; omega
          · simp at e; omega
        · rcases List.mem_append.1 hx with e | e
          · exact i3 hd0 x e
          · simp at e
            have : ¬ y > v := fun h => e2 ⟨h, hd0⟩
            omega
        · obtain ⟨h1, h2⟩ := i4 hd1
          exact ⟨List.mem_append.2 (.inl h1), fun z hz => h2 z (List.mem_cons_of_mem _ hz)⟩
        · rcases List.mem_append.1 hx with e | e
          · exact i5 x e
          · simp at e; exact .inr (e ▸ hin)
        · rcases List.mem_append.1 hx with e | e
          · exact List.mem_append.2 (.inl (i6 x e))
          · exact List.mem_append.2 (.inr e)
theorem putR_put {l : List Int} {v : Int} (h : Rise l) : putR l v = putS v l := by
  obtain ⟨i1, _, i3, i4, i5, i6⟩ := putAt_inv h (v := v) l.length (Nat.le_refl _)
  rw [List.take_length] at i6
  refine rise_eq ?_ (putS_rise h) fun x => ?_
  · unfold putR
    split
    · exact i1
    · rename_i hd
      simp only [Bool.not_eq_true] at hd
      exact List.pairwise_append.2 ⟨i1, by simp, fun a ha b hb => by simp at hb; subst hb; exact i3 hd a ha⟩
  · rw [putS_mem_iff h]
    unfold putR
    split
    · rename_i hd
      refine ⟨i5 x, fun hx => ?_⟩
      rcases hx with e | e
      · exact e ▸ (i4 hd).1
      · exact i6 x e
    · rw [List.mem_append]
      refine ⟨fun hx => ?_, fun hx => ?_⟩
      · rcases hx with e | e
        · exact i5 x e
        · simp at e; exact .inl e
      · rcases hx with e | e
        · exact .inr (by simp [e])
        · exact .inl (i6 x e)
theorem riAt_fold (l : List Int) : ∀ j, j ≤ l.length → riAt l j = (l.take j).foldl (fun l v => putS v l) [] ∧ Rise (riAt l j)
  | 0, _ => by simp [riAt]
  | j + 1, hj => by
    obtain ⟨h1, h2⟩ := riAt_fold l j (by omega)
    have hlt : j < l.length := by omega
    have hy : l.getD j 0 = l[j] := by simp [List.getD, hlt]
    rw [riAt, putR_put h2, hy, List.take_add_one, List.getElem?_eq_getElem hlt, Option.toList_some, List.foldl_append, ← h1]
    exact ⟨rfl, putS_rise h2⟩
theorem riAt_rise (l : List Int) : riAt l l.length = riseF l := by
  have := (riAt_fold l l.length (Nat.le_refl _)).1
  rw [List.take_length] at this
  exact this

theorem compactUpTo_succ (d : Array Int) (k : Nat) : Lib.compactUpTo d (k + 1) = Lib.compactUpTo d k ++ (if Lib.keeps d k = true then [d[k]!] else []) := by
  unfold Lib.compactUpTo
  rw [List.range_succ, List.filter_append, List.map_append]
  by_cases h : Lib.keeps d k = true
  · simp [h]
  · simp [h]
/-- slices.Compact of what slices.Sort leaves. -/
theorem compact_inv {d : Array Int} (h : ∀ i j, i ≤ j → j < d.size → d[i]! ≤ d[j]!) : ∀ k, k ≤ d.size → Rise (Lib.compactUpTo d k) ∧ (∀ x, x ∈ Lib.compactUpTo d k ↔ ∃ j, j < k ∧ d[j]! = x)
  | 0, _ => by simp [Lib.compactUpTo]
  | k + 1, hk => by
    obtain ⟨h1, h2⟩ := compact_inv h k (by omega)
    rw [compactUpTo_succ]
    by_cases hkk : Lib.keeps d k = true
    · rw [if_pos hkk]
      have hk2 : k = 0 ∨ d[k]! ≠ d[k - 1]! := by simpa [Lib.keeps] using hkk
      refine ⟨List.pairwise_append.2 ⟨h1, by simp, fun a ha b hb => ?_⟩, fun x => ?_⟩
      · simp at hb
        subst hb
        obtain ⟨j, hj, rfl⟩ := (h2 a).1 ha
        rcases hk2 with e | e
        · omega
        · have e1 := h j (k - 1) (by omega) (by omega)
          have e2 := h (k - 1) k (by omega) (by omega)
          omega
      · rw [List.mem_append, h2 x]
        refine ⟨fun hx => ?_, fun hx => ?_⟩
        · rcases hx with ⟨j, hj, e⟩ | e
          · exact ⟨j, by omega, e⟩
          · simp at e
            exact ⟨k, by omega, e.symm⟩
        · obtain ⟨j, hj, e⟩ := hx
          rcases (by omega : j < k ∨ j = k) with e2 | e2
          · exact .inl ⟨j, e2, e⟩
          · subst e2
            exact .inr (by simp [e])
    · rw [if_neg hkk, List.append_nil]
      have hk2 : k ≠ 0 ∧ d[k]! = d[k - 1]! := by simpa [Lib.keeps] using hkk
      refine ⟨h1, fun x => ?_⟩
      rw [h2 x]
      refine ⟨fun ⟨j, hj, e⟩ => ⟨j, by omega, e⟩, fun ⟨j, hj, e⟩ => ?_⟩
      rcases (by omega : j < k ∨ j = k) with e2 | e2
      · exact ⟨j, e2, e⟩
      · subst e2
        exact ⟨j - 1, by omega, by rw [← hk2.2]; exact e⟩
theorem compact_sort (zs : List Int) : Lib.compact (zs.mergeSort fun x y => decide (x ≤ y)) = riseF zs := by
  have hp : (zs.mergeSort fun x y => decide (x ≤ y)).Pairwise (fun x y => decide (x ≤ y) = true) :=
    List.pairwise_mergeSort (fun a b c h1 h2 => by simp at *; omega) (fun a b => by simp; omega) zs
  have hm : ∀ x, x ∈ (zs.mergeSort fun x y => decide (x ≤ y)) ↔ x ∈ zs := fun x => List.mem_mergeSort
  generalize (zs.mergeSort fun x y => decide (x ≤ y)) = m at *
  have hs : ∀ i j, i ≤ j → j < m.toArray.size → m.toArray[i]! ≤ m.toArray[j]! := by
    intro i j hij hj
    have hj' : j < m.length := by simpa using hj
    have hi' : i < m.length := by omega
    rcases (by omega : i = j ∨ i < j) with e | e
    · subst e; exact Int.le_refl _
    · have := List.pairwise_iff_getElem.1 hp i j hi' hj' e
      simp only [decide_eq_true_eq] at this
      rw [getElem!_pos m.toArray i (by simpa using hi'), getElem!_pos m.toArray j hj]
      simpa using this
  obtain ⟨h1, h2⟩ := compact_inv hs m.length (by simp)
  refine rise_eq h1 (riseF_rise zs) fun x => ?_
  show x ∈ Lib.compactUpTo m.toArray m.length ↔ _
  rw [h2 x, riseF_iff, ← hm x]
  refine ⟨fun ⟨j, hj, e⟩ => ?_, fun hx => ?_⟩
  · rw [getElem!_pos m.toArray j (by simpa using hj)] at e
    subst e
    simp
  · obtain ⟨j, hj, e⟩ := List.getElem_of_mem hx
    exact ⟨j, hj, by rw [getElem!_pos m.toArray j (by simpa using hj)]; simpa using e⟩
end Go.Proofs.YtfcaebceklhbkaaDoor
