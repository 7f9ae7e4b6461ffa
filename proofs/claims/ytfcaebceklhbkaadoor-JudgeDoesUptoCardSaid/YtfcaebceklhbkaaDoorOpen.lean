/-
  The arguments of this seat's laws, opened: slices of structs, of slices of structs; what their bulk bounds. No walk.
-/
import Derived.Test.YtfcaebceklhbkaaDoorLaw
import Derived.Test.YtfcaebceklhbkaaDoorBulk
import Derived.Deep.Slices
namespace Go.Proofs.YtfcaebceklhbkaaDoor
open Go.ChangeShapes Go.WideShapes Go.ChangeAt Go.RowKit Go.Deep
set_option linter.unusedVariables false

section
variable {H : Type} {enc : TypeId × Value → H} {W : World} {held : Bool}

theorem plain_cell {w : World} {x : Addr} {v : Value} {i : Nat} (h : w.cell? (x.add i) = some v) (hs : x.spot = none) : x.add i = ⟨x.block, x.off + i, none⟩ := by
  cases x
  simp at hs
  subst hs
  exact addr_add _ _ _
theorem spot_none {w : World} {x : Addr} {v : Value} (h : w.cell? (x.add 0) = some v) : x.spot = none := by
  cases hx : x.spot with
  | none => rfl
  | some y =>
    unfold World.cell? at h
    split at h
    · simp [Addr.add, hx] at h
    · cases h

/-- A slice of elements of k cells each. -/
theorem open_flat {n : Nat} {t e : TypeId} {k len cap : Nat} {ao : Option Addr} {d : DataW H} {p : List MemPlace} (ht : Tryd.prog.underlying t = some (.slice e)) (hk : Tryd.prog.cellsOf e = k) (hk0 : 0 < k)
    (h : DataW.trod enc Tryd.prog W 0 (fun _ => true) held n t [.slice ao len cap] = some (d, p)) :
    ∃ D : Nat → DataW H, (len = 0 ∨ ∃ g o, ao = some ⟨g, o, none⟩ ∧ ∀ i, i < len → ∃ cs n' p', DataW.trod enc Tryd.prog W 0 (fun _ => true) held n' e cs = some (D i, p') ∧ cs.length = k ∧ ∀ j, j < k → W.cell? ⟨g, o + i * k + j, none⟩ = cs[j]?) ∧
      Rows.uptoBulkAll ((List.range len).map D) + 1 ≤ Rows.uptoBulk d ∧ len ≤ cap ∧ cap ≤ maxLen := by
  rcases open_slice ht h with ⟨hcs, hd⟩ | ⟨a, l, c, m, n', D, Pl, hcs, _, hl, hm, hmm, hd, hx⟩
  · cases hcs
    cases hd
    exact ⟨fun _ => .nil, .inl rfl, by simp [Rows.uptoBulkAll, Rows.uptoBulk], Nat.le_refl _, Nat.zero_le _⟩
  · cases hcs
    simp only [Prod.mk.injEq] at hd
    obtain ⟨rfl, _⟩ := hd
    simp only [if_true] at hmm
    subst hmm
    refine ⟨D, ?_, bulks.slice_elems _ _, hl, hm⟩
    rcases Nat.eq_zero_or_pos len with h0 | h0
    · exact .inl h0
    · right
      have hall : ∀ i, i < len → ∃ cs, DataW.trod enc Tryd.prog W 0 (fun _ => true) held n' e cs = some (D i, Pl i) ∧ cs.length = k ∧ ∀ j, j < k → W.cell? (a.add (i * k + j)) = cs[j]? := by
        intro i hi
        obtain ⟨cs, h1, h2⟩ := hx i (by omega)
        rw [hk] at h1
        obtain ⟨_, hlen, hcell⟩ := World.cells?_some h1
        refine ⟨cs, h2, hlen, fun j hj => ?_⟩
        have := hcell j hj
        rw [add_add] at this
        exact this
      obtain ⟨cs0, _, hl0, hc0⟩ := hall 0 h0
      have hs : a.spot = none := by
        have h1 := hc0 0 hk0
        rw [List.getElem?_eq_getElem (by omega)] at h1
        simp only [Nat.zero_mul, Nat.add_zero] at h1
        exact spot_none h1
      refine ⟨a.block, a.off, by cases a; simp at hs; rw [hs], fun i hi => ?_⟩
      obtain ⟨cs, h1, h2, h3⟩ := hall i hi
      refine ⟨cs, n', _, h1, h2, fun j hj => ?_⟩
      have h4 := h3 j hj
      obtain ⟨v, hv⟩ : ∃ v, cs[j]? = some v := ⟨_, List.getElem?_eq_getElem (by omega)⟩
      rw [hv] at h4 ⊢
      rw [plain_cell h4 hs, ← Nat.add_assoc] at h4
      exact h4

theorem int_one {n : Nat} {t : TypeId} (ht : Tryd.prog.underlying t = some (.int .i64)) {cs : List Value} {y : DataW H × List MemPlace} (h : DataW.trod enc Tryd.prog W 0 (fun _ => true) held n t cs = some y) : ∃ z, cs = [.int .i64 z] ∧ In64 z ∧ Rows.uptoBulk y.1 = 1 := by
  obtain ⟨z, h1, h2, h3⟩ := DataW.trod_int ht h
  refine ⟨z, h1, ?_, by rw [h2]; rfl⟩
  have h0 : IntKind.i64.min = -9223372036854775808 := rfl
  have h4 : IntKind.i64.max = 9223372036854775807 := rfl
  simp only [Lit.wf, Bool.and_eq_true, decide_eq_true_eq] at h3
  unfold In64
  omega

theorem len2 {α : Type} {l : List α} (h : l.length = 2) : ∃ a b, l = [a, b] := by
  match l, h with
  | [a, b], _ => exact ⟨a, b, rfl⟩
theorem len3 {α : Type} {l : List α} (h : l.length = 3) : ∃ a b c, l = [a, b, c] := by
  match l, h with
  | [a, b, c], _ => exact ⟨a, b, c, rfl⟩
theorem len4 {α : Type} {l : List α} (h : l.length = 4) : ∃ a b c d, l = [a, b, c, d] := by
  match l, h with
  | [a, b, c, d], _ => exact ⟨a, b, c, d, rfl⟩
/-- An item's three cells. -/
theorem item_one {n : Nat} {cs : List Value} {y : DataW H × List MemPlace} (h : DataW.trod enc Tryd.prog W 0 (fun _ => true) held n 73 cs = some y) : ∃ a b d, cs = [.int .i64 a, .int .i64 b, .int .i64 d] ∧ In64 a ∧ In64 b ∧ In64 d ∧ 4 ≤ Rows.uptoBulk y.1 := by
  obtain ⟨xs, m, _, hy, hl, hxl, hf⟩ := DataW.trod_struct Tryd.underlying73 h
  rw [cells_item] at hl
  have hxl' : xs.length = 3 := hxl
  obtain ⟨v0, v1, v2, rfl⟩ := len3 hl
  obtain ⟨x0, x1, x2, rfl⟩ := len3 hxl'
  have g0 : DataW.trod enc Tryd.prog W 0 (fun _ => true) held m 3 (([v0, v1, v2].drop 0).take (Tryd.prog.cellsOf 3)) = some x0 := hf 0 _ rfl
  have g1 : DataW.trod enc Tryd.prog W 0 (fun _ => true) held m 3 (([v0, v1, v2].drop 1).take (Tryd.prog.cellsOf 3)) = some x1 := hf 1 _ rfl
  have g2 : DataW.trod enc Tryd.prog W 0 (fun _ => true) held m 2 (([v0, v1, v2].drop 2).take (Tryd.prog.cellsOf 2)) = some x2 := hf 2 _ rfl
  rw [cells3] at g0 g1
  rw [cells2] at g2
  obtain ⟨a, e0, w0, b0⟩ := int_one Tryd.underlying3 (y := x0) g0
  obtain ⟨b, e1, w1, b1⟩ := int_one Tryd.underlying3 (y := x1) g1
  obtain ⟨c, e2, w2, b2⟩ := int_one Tryd.underlying2 (y := x2) g2
  simp at e0 e1 e2
  subst e0 e1 e2
  refine ⟨a, b, c, rfl, w0, w1, w2, ?_⟩
  rw [hy]
  simp only [List.map_cons, List.map_nil, Rows.uptoBulk, Rows.uptoBulkAll, b0, b1, b2]
  omega
theorem cells75 : Tryd.prog.cellsOf 75 = 4 := by kernel_rfl
theorem seen_one {n : Nat} {cs : List Value} {y : DataW H × List MemPlace} (h : DataW.trod enc Tryd.prog W 0 (fun _ => true) held n 75 cs = some y) : ∃ q a b d, cs = [.int .i64 q, .int .i64 a, .int .i64 b, .int .i64 d] ∧ In64 q ∧ In64 a ∧ In64 b ∧ In64 d ∧ 6 ≤ Rows.uptoBulk y.1 := by
  obtain ⟨xs, m, _, hy, hl, hxl, hf⟩ := DataW.trod_struct Tryd.underlying75 h
  rw [cells75] at hl
  have hxl' : xs.length = 2 := hxl
  obtain ⟨v0, v1, v2, v3, rfl⟩ := len4 hl
  obtain ⟨x0, x1, rfl⟩ := len2 hxl'
  have g0 : DataW.trod enc Tryd.prog W 0 (fun _ => true) held m 2 (([v0, v1, v2, v3].drop 0).take (Tryd.prog.cellsOf 2)) = some x0 := hf 0 _ rfl
  have g1 : DataW.trod enc Tryd.prog W 0 (fun _ => true) held m 73 (([v0, v1, v2, v3].drop 1).take (Tryd.prog.cellsOf 73)) = some x1 := hf 1 _ rfl
  rw [cells2] at g0
  rw [cells_item] at g1
  obtain ⟨q, e0, w0, b0⟩ := int_one Tryd.underlying2 (y := x0) g0
  obtain ⟨a, b, d, e1, w1, w2, w3, b1⟩ := item_one (y := x1) g1
  simp at e0 e1
  obtain ⟨e1, e2, e3⟩ := e1
  subst e0 e1 e2 e3
  refine ⟨q, a, b, d, rfl, w0, w1, w2, w3, ?_⟩
  rw [hy]
  simp only [List.map_cons, List.map_nil, Rows.uptoBulk, Rows.uptoBulkAll, b0]
  omega

theorem bulk_each {k : Nat} {D : Nat → DataW H} : ∀ {n : Nat}, (∀ i, i < n → k ≤ Rows.uptoBulk (D i)) → n * k ≤ Rows.uptoBulkAll ((List.range n).map D)
  | 0, _ => by simp
  | n + 1, h => by
    have h1 := bulk_each (n := n) (fun i hi => h i (by omega))
    have h2 := h n (by omega)
    rw [List.range_succ, List.map_append, bulks.append]
    simp only [List.map_cons, List.map_nil, Rows.uptoBulkAll]
    rw [Nat.add_mul]
    omega

/-- A slice of items. -/
theorem open_items {n len cap : Nat} {ao : Option Addr} {d : DataW H} {p : List MemPlace} (h : DataW.trod enc Tryd.prog W 0 (fun _ => true) held n 55 [.slice ao len cap] = some (d, p)) :
    ∃ T : List Itm, T.length = len ∧ ItemRow W ao T ∧ Small3 T ∧ 4 * len + 1 ≤ Rows.uptoBulk d := by
  obtain ⟨D, hrow, hbk, _, _⟩ := open_flat Tryd.underlying55 cells_item (by omega) h
  rcases hrow with rfl | ⟨g, o, rfl, hrow⟩
  · refine ⟨[], rfl, .inl rfl, fun i hi => by simp at hi, ?_⟩
    have := bulks.one_le d
    omega
  · have each : ∀ i, i < len → ∃ t : Itm, (W.cell? ⟨g, o + i * 3, none⟩ = some (.int .i64 t.a) ∧ W.cell? ⟨g, o + i * 3 + 1, none⟩ = some (.int .i64 t.b) ∧ W.cell? ⟨g, o + i * 3 + 2, none⟩ = some (.int .i64 t.d)) ∧ (In64 t.a ∧ In64 t.b ∧ In64 t.d) ∧ 4 ≤ Rows.uptoBulk (D i) := by
      intro i hi
      obtain ⟨cs, n', p', h1, _, h2⟩ := hrow i hi
      obtain ⟨a, b, d, rfl, w0, w1, w2, hb⟩ := item_one h1
      exact ⟨⟨a, b, d⟩, ⟨h2 0 (by omega), h2 1 (by omega), h2 2 (by omega)⟩, ⟨w0, w1, w2⟩, hb⟩
    obtain ⟨f, hf⟩ := choose_lt (α := Itm) each
    have hg : ∀ i, i < len → ((List.range len).map f).getD i default = f i := fun i hi => by simp [List.getD, hi]
    refine ⟨(List.range len).map f, by simp, .inr ⟨g, o, rfl, fun i hi => ?_⟩, fun i hi => ?_, ?_⟩
    · have hi' : i < len := by simpa using hi
      rw [hg i hi']
      exact (hf i hi').1
    · have hi' : i < len := by simpa using hi
      rw [hg i hi']
      exact (hf i hi').2.1
    · have := bulk_each (k := 4) (D := D) (n := len) (fun i hi => (hf i hi).2.2)
      omega
/-- A slice of what was seen. -/
theorem open_seen {n len cap : Nat} {ao : Option Addr} {d : DataW H} {p : List MemPlace} (h : DataW.trod enc Tryd.prog W 0 (fun _ => true) held n 56 [.slice ao len cap] = some (d, p)) :
    ∃ S : List Seen4, S.length = len ∧ SeenRow W ao S ∧ Small4 S ∧ 6 * len + 1 ≤ Rows.uptoBulk d := by
  obtain ⟨D, hrow, hbk, _, _⟩ := open_flat Tryd.underlying56 cells75 (by omega) h
  rcases hrow with rfl | ⟨g, o, rfl, hrow⟩
  · refine ⟨[], rfl, .inl rfl, fun i hi => by simp at hi, ?_⟩
    have := bulks.one_le d
    omega
  · have each : ∀ i, i < len → ∃ t : Seen4, (W.cell? ⟨g, o + i * 4, none⟩ = some (.int .i64 t.q) ∧ W.cell? ⟨g, o + i * 4 + 1, none⟩ = some (.int .i64 t.a) ∧ W.cell? ⟨g, o + i * 4 + 2, none⟩ = some (.int .i64 t.b) ∧ W.cell? ⟨g, o + i * 4 + 3, none⟩ = some (.int .i64 t.d)) ∧ (In64 t.q ∧ In64 t.a ∧ In64 t.b ∧ In64 t.d) ∧ 6 ≤ Rows.uptoBulk (D i) := by
      intro i hi
      obtain ⟨cs, n', p', h1, _, h2⟩ := hrow i hi
      obtain ⟨q, a, b, d, rfl, w0, w1, w2, w3, hb⟩ := seen_one h1
      exact ⟨⟨q, a, b, d⟩, ⟨h2 0 (by omega), h2 1 (by omega), h2 2 (by omega), h2 3 (by omega)⟩, ⟨w0, w1, w2, w3⟩, hb⟩
    obtain ⟨f, hf⟩ := choose_lt (α := Seen4) each
    have hg : ∀ i, i < len → ((List.range len).map f).getD i default = f i := fun i hi => by simp [List.getD, hi]
    refine ⟨(List.range len).map f, by simp, .inr ⟨g, o, rfl, fun i hi => ?_⟩, fun i hi => ?_, ?_⟩
    · have hi' : i < len := by simpa using hi
      rw [hg i hi']
      exact (hf i hi').1
    · have hi' : i < len := by simpa using hi
      rw [hg i hi']
      exact (hf i hi').2.1
    · have := bulk_each (k := 6) (D := D) (n := len) (fun i hi => (hf i hi).2.2)
      omega
theorem cells56 : Tryd.prog.cellsOf 56 = 1 := by kernel_rfl
theorem bulk_tot {D : Nat → DataW H} {R : Nat → List Seen4} : ∀ {n : Nat}, (∀ i, i < n → 6 * (R i).length + 1 ≤ Rows.uptoBulk (D i)) → 6 * tot R n + n ≤ Rows.uptoBulkAll ((List.range n).map D)
  | 0, _ => by simp [tot]
  | n + 1, h => by
    have h1 := bulk_tot (n := n) (fun i hi => h i (by omega))
    have h2 := h n (by omega)
    rw [List.range_succ, List.map_append, bulks.append]
    simp only [List.map_cons, List.map_nil, Rows.uptoBulkAll, tot]
    omega
/-- Readers. -/
theorem open_readers {n len cap : Nat} {ao : Option Addr} {d : DataW H} {p : List MemPlace} (h : DataW.trod enc Tryd.prog W 0 (fun _ => true) held n 54 [.slice ao len cap] = some (d, p)) :
    ∃ A C R, Readers W ao len A C R ∧ 6 * tot R len + len + 1 ≤ Rows.uptoBulk d := by
  obtain ⟨D, hrow, hbk, _, _⟩ := open_flat Tryd.underlying54 cells56 (by omega) h
  rcases hrow with rfl | ⟨g, o, rfl, hrow⟩
  · refine ⟨fun _ => none, fun _ => 0, fun _ => [], ⟨.inl rfl, fun r hr => by omega⟩, ?_⟩
    have := bulks.one_le d
    simp [tot]
    omega
  · have each : ∀ r, r < len → ∃ y : Option Addr × Nat × List Seen4, W.cell? ⟨g, o + r, none⟩ = some (.slice y.1 y.2.2.length y.2.1) ∧ (SeenRow W y.1 y.2.2 ∧ Small4 y.2.2) ∧ 6 * y.2.2.length + 1 ≤ Rows.uptoBulk (D r) := by
      intro r hr
      obtain ⟨cs, n', p', h1, hl, h2⟩ := hrow r hr
      obtain ⟨a, l, c, rfl⟩ : ∃ a l c, cs = [.slice a l c] := by
        rcases open_slice Tryd.underlying56 h1 with ⟨e, _⟩ | ⟨a, l, c, _, _, _, _, e, _⟩
        · exact ⟨_, _, _, e⟩
        · exact ⟨_, _, _, e⟩
      obtain ⟨S, rfl, h3, h4, h5⟩ := open_seen h1
      have := h2 0 (by omega)
      simp only [Nat.mul_one, Nat.add_zero] at this
      exact ⟨(a, c, S), this, ⟨h3, h4⟩, h5⟩
    obtain ⟨f, hf⟩ := choose_lt each
    refine ⟨fun r => (f r).1, fun r => (f r).2.1, fun r => (f r).2.2, ⟨.inr ⟨g, o, rfl, fun r hr => (hf r hr).1⟩, fun r hr => (hf r hr).2.1⟩, ?_⟩
    have := bulk_tot (D := D) (R := fun r => (f r).2.2) (n := len) (fun i hi => (hf i hi).2.2)
    omega
end
end Go.Proofs.YtfcaebceklhbkaaDoor
