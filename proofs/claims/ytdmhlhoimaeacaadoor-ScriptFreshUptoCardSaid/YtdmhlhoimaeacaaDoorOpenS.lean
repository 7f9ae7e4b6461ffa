/-
  A script that comes in, opened; what its bulk bounds. No walk.
-/
import Derived.Test.YtdmhlhoimaeacaaDoorLaw
import Derived.Test.YtdmhlhoimaeacaaDoorExF
namespace Go.Proofs.YtdmhlhoimaeacaaDoor
open Go.ChangeShapes Go.WideShapes Go.ChangeAt Go.RowKit Go.Deep
set_option linter.unusedVariables false

theorem choose_lt {α : Type} [Inhabited α] {n : Nat} {P : Nat → α → Prop} (h : ∀ i, i < n → ∃ x, P i x) : ∃ f : Nat → α, ∀ i, i < n → P i (f i) := by
  refine ⟨fun i => if hi : i < n then Classical.choose (h i hi) else default, fun i hi => ?_⟩
  simp only [dif_pos hi]
  exact Classical.choose_spec (h i hi)
theorem row_each {w : World} {g o n k : Nat} {f : Nat → List Value} (hk : ∀ i, (f i).length = k) (h0 : 0 < k) (h : ∀ i, i < n → ∀ j, j < k → w.cell? ⟨g, o + i * k + j, none⟩ = (f i)[j]?) : ∀ j, j < (flatN n f).length → w.cell? ⟨g, o + j, none⟩ = (flatN n f)[j]? := by
  intro j hj
  rw [flatN_length hk] at hj
  have h1 : j / k < n := Nat.div_lt_of_lt_mul (by rw [Nat.mul_comm]; exact hj)
  have h2 : j % k < k := Nat.mod_lt _ h0
  have e : j = j / k * k + j % k := by rw [Nat.mul_comm]; exact (Nat.div_add_mod j k).symm
  have h3 := h (j / k) h1 (j % k) h2
  rw [← flatN_get hk n (j / k) (j % k) h1 h2, Nat.add_assoc, ← e] at h3
  exact h3
section
variable {H : Type} {enc : TypeId × Value → H} {W : World} {held : Bool}

theorem plain_cell {w : World} {x : Addr} {v : Value} {i : Nat} (h : w.cell? (x.add i) = some v) (hs : x.spot = none) : x.add i = ⟨x.block, x.off + i, none⟩ := by
  cases x
  simp at hs
  subst hs
  exact addr_add _ _ _
theorem spot_none {w : World} {x : Addr} {v : Value} (h : w.cell? (x.add 0) = some v) : x.spot = none := by
  cases hx : x.spot with
  | none => rfl
  | some y =>
    unfold World.cell? at h
    split at h
    · simp [Addr.add, hx] at h
    · cases h
/-- A slice of elements of k cells each. -/
theorem open_flat {n : Nat} {t e : TypeId} {k len cap : Nat} {ao : Option Addr} {d : DataW H} {p : List MemPlace} (ht : Tryd.prog.underlying t = some (.slice e)) (hk : Tryd.prog.cellsOf e = k) (hk0 : 0 < k)
    (h : DataW.trod enc Tryd.prog W 0 (fun _ => true) held n t [.slice ao len cap] = some (d, p)) :
    ∃ D : Nat → DataW H, (len = 0 ∨ ∃ g o, ao = some ⟨g, o, none⟩ ∧ ∀ i, i < len → ∃ cs n' p', DataW.trod enc Tryd.prog W 0 (fun _ => true) held n' e cs = some (D i, p') ∧ cs.length = k ∧ ∀ j, j < k → W.cell? ⟨g, o + i * k + j, none⟩ = cs[j]?) ∧
      Rows.uptoBulkAll ((List.range len).map D) + 1 ≤ Rows.uptoBulk d ∧ len ≤ cap ∧ cap ≤ maxLen := by
  rcases open_slice ht h with ⟨hcs, hd⟩ | ⟨a, l, c, m, n', D, Pl, hcs, _, hl, hm, hmm, hd, hx⟩
  · cases hcs
    cases hd
    exact ⟨fun _ => .nil, .inl rfl, by simp [Rows.uptoBulkAll, Rows.uptoBulk], Nat.le_refl _, Nat.zero_le _⟩
  · cases hcs
    simp only [Prod.mk.injEq] at hd
    obtain ⟨rfl, _⟩ := hd
    simp only [if_true] at hmm
    subst hmm
    refine ⟨D, ?_, bulks.slice_elems _ _, hl, hm⟩
    rcases Nat.eq_zero_or_pos len with h0 | h0
    · exact .inl h0
    · right
      have hall : ∀ i, i < len → ∃ cs, DataW.trod enc Tryd.prog W 0 (fun _ => true) held n' e cs = some (D i, Pl i) ∧ cs.length = k ∧ ∀ j, j < k → W.cell? (a.add (i * k + j)) = cs[j]? := by
        intro i hi
        obtain ⟨cs, h1, h2⟩ := hx i (by omega)
        rw [hk] at h1
        obtain ⟨_, hlen, hcell⟩ := World.cells?_some h1
        refine ⟨cs, h2, hlen, fun j hj => ?_⟩
        have := hcell j hj
        rw [add_add] at this
        exact this
      obtain ⟨cs0, _, hl0, hc0⟩ := hall 0 h0
      have hs : a.spot = none := by
        have h1 := hc0 0 hk0
        rw [List.getElem?_eq_getElem (by omega)] at h1
        simp only [Nat.zero_mul, Nat.add_zero] at h1
        exact spot_none h1
      refine ⟨a.block, a.off, by cases a; simp at hs; rw [hs], fun i hi => ?_⟩
      obtain ⟨cs, h1, h2, h3⟩ := hall i hi
      refine ⟨cs, n', _, h1, h2, fun j hj => ?_⟩
      have h4 := h3 j hj
      obtain ⟨v, hv⟩ : ∃ v, cs[j]? = some v := ⟨_, List.getElem?_eq_getElem (by omega)⟩
      rw [hv] at h4 ⊢
      rw [plain_cell h4 hs, ← Nat.add_assoc] at h4
      exact h4


theorem int_one {n : Nat} {t : TypeId} (ht : Tryd.prog.underlying t = some (.int .i64)) {cs : List Value} {y : DataW H × List MemPlace} (h : DataW.trod enc Tryd.prog W 0 (fun _ => true) held n t cs = some y) : ∃ z, cs = [.int .i64 z] ∧ In64 z := by
  obtain ⟨z, h1, h2, h3⟩ := DataW.trod_int ht h
  refine ⟨z, h1, ?_⟩
  have h0 : IntKind.i64.min = -9223372036854775808 := rfl
  have h4 : IntKind.i64.max = 9223372036854775807 := rfl
  simp only [Lit.wf, Bool.and_eq_true, decide_eq_true_eq] at h3
  unfold In64
  omega
theorem ln2 {α : Type} {l : List α} (h : l.length = 2) : ∃ a b, l = [a, b] := by
  match l, h with
  | [a, b], _ => exact ⟨a, b, rfl⟩
theorem ln4 {α : Type} {l : List α} (h : l.length = 4) : ∃ a b c d, l = [a, b, c, d] := by
  match l, h with
  | [a, b, c, d], _ => exact ⟨a, b, c, d, rfl⟩
theorem cells2 : Tryd.prog.cellsOf 2 = 1 := by kernel_rfl
theorem cells3 : Tryd.prog.cellsOf 3 = 1 := by kernel_rfl
theorem cells62 : Tryd.prog.cellsOf 62 = 2 := by kernel_rfl
theorem cells58 : Tryd.prog.cellsOf 58 = 2 := by kernel_rfl
theorem cells65 : Tryd.prog.cellsOf 65 = 4 := by kernel_rfl
theorem cells56 : Tryd.prog.cellsOf 56 = 1 := by kernel_rfl
theorem cells23 : Tryd.prog.cellsOf 23 = 1 := by kernel_rfl
theorem cells24 : Tryd.prog.cellsOf 24 = 1 := by kernel_rfl
theorem cells25 : Tryd.prog.cellsOf 25 = 1 := by kernel_rfl
theorem cells27 : Tryd.prog.cellsOf 27 = 4 := by kernel_rfl
theorem bulk_each {k : Nat} {D : Nat → DataW H} : ∀ {n : Nat}, (∀ i, i < n → k ≤ Rows.uptoBulk (D i)) → n * k ≤ Rows.uptoBulkAll ((List.range n).map D)
  | 0, _ => by simp
  | n + 1, h => by
    have h1 := bulk_each (n := n) (fun i hi => h i (by omega))
    have h2 := h n (by omega)
    rw [List.range_succ, List.map_append, bulks.append]
    simp only [List.map_cons, List.map_nil, Rows.uptoBulkAll]
    rw [Nat.add_mul]
    omega
theorem bulk_at {D : Nat → DataW H} {n i : Nat} (hi : i < n) : Rows.uptoBulk (D i) ≤ Rows.uptoBulkAll ((List.range n).map D) :=
  bulks.part_le (List.mem_map.2 ⟨i, List.mem_range.2 hi, rfl⟩)
theorem getD_map {α : Type} {n i : Nat} (f : Nat → α) (d : α) (hi : i < n) : ((List.range n).map f).getD i d = f i := by simp [List.getD, hi]
theorem top_one {n : Nat} {cs : List Value} {y : DataW H × List MemPlace} (h : DataW.trod enc Tryd.prog W 0 (fun _ => true) held n 62 cs = some y) : ∃ t : Top, cs = tcell t ∧ In64 t.n ∧ In64 t.s := by
  obtain ⟨xs, m, _, hy, hl, hxl, hf⟩ := DataW.trod_struct Tryd.underlying62 h
  rw [cells62] at hl
  have hxl' : xs.length = 2 := hxl
  obtain ⟨v0, v1, rfl⟩ := ln2 hl
  obtain ⟨x0, x1, rfl⟩ := ln2 hxl'
  have g0 : DataW.trod enc Tryd.prog W 0 (fun _ => true) held m 2 (([v0, v1].drop 0).take (Tryd.prog.cellsOf 2)) = some x0 := hf 0 _ rfl
  have g1 : DataW.trod enc Tryd.prog W 0 (fun _ => true) held m 3 (([v0, v1].drop 1).take (Tryd.prog.cellsOf 3)) = some x1 := hf 1 _ rfl
  rw [cells2] at g0
  rw [cells3] at g1
  obtain ⟨a, e0, w0⟩ := int_one Tryd.underlying2 (y := x0) g0
  obtain ⟨b, e1, w1⟩ := int_one Tryd.underlying3 (y := x1) g1
  simp at e0 e1
  subst e0 e1
  exact ⟨⟨a, b⟩, rfl, w0, w1⟩
theorem opn_one {n : Nat} {cs : List Value} {y : DataW H × List MemPlace} (h : DataW.trod enc Tryd.prog W 0 (fun _ => true) held n 65 cs = some y) : ∃ o : Opn, cs = ocell o ∧ In64O o := by
  obtain ⟨xs, m, _, hy, hl, hxl, hf⟩ := DataW.trod_struct Tryd.underlying65 h
  rw [cells65] at hl
  have hxl' : xs.length = 4 := hxl
  obtain ⟨v0, v1, v2, v3, rfl⟩ := ln4 hl
  obtain ⟨x0, x1, x2, x3, rfl⟩ := ln4 hxl'
  have g0 : DataW.trod enc Tryd.prog W 0 (fun _ => true) held m 3 (([v0, v1, v2, v3].drop 0).take (Tryd.prog.cellsOf 3)) = some x0 := hf 0 _ rfl
  have g1 : DataW.trod enc Tryd.prog W 0 (fun _ => true) held m 2 (([v0, v1, v2, v3].drop 1).take (Tryd.prog.cellsOf 2)) = some x1 := hf 1 _ rfl
  have g2 : DataW.trod enc Tryd.prog W 0 (fun _ => true) held m 2 (([v0, v1, v2, v3].drop 2).take (Tryd.prog.cellsOf 2)) = some x2 := hf 2 _ rfl
  have g3 : DataW.trod enc Tryd.prog W 0 (fun _ => true) held m 2 (([v0, v1, v2, v3].drop 3).take (Tryd.prog.cellsOf 2)) = some x3 := hf 3 _ rfl
  rw [cells2] at g1 g2 g3
  rw [cells3] at g0
  obtain ⟨q, e0, w0⟩ := int_one Tryd.underlying3 (y := x0) g0
  obtain ⟨a, e1, w1⟩ := int_one Tryd.underlying2 (y := x1) g1
  obtain ⟨b, e2, w2⟩ := int_one Tryd.underlying2 (y := x2) g2
  obtain ⟨d, e3, w3⟩ := int_one Tryd.underlying2 (y := x3) g3
  simp at e0 e1 e2 e3
  subst e0 e1 e2 e3
  exact ⟨⟨q, a, b, d⟩, rfl, w0, w1, w2, w3⟩
theorem slice_one {n : Nat} {t e : TypeId} (ht : Tryd.prog.underlying t = some (.slice e)) {cs : List Value} {y : DataW H × List MemPlace} (h : DataW.trod enc Tryd.prog W 0 (fun _ => true) held n t cs = some y) : ∃ ao len cap, cs = [.slice ao len cap] ∧ (ao = none → len = 0 ∧ cap = 0) := by
  rcases open_slice ht h with ⟨hcs, hd⟩ | ⟨a, l, c, m, n', D, Pl, hcs, _, hl, hm, hmm, hd, hx⟩
  · exact ⟨none, 0, 0, hcs, fun _ => ⟨rfl, rfl⟩⟩
  · exact ⟨some a, l, c, hcs, fun h => by cases h⟩
/-- A nil slice is empty. -/
def NilE (v : Value) : Prop := ∀ n c, v = .slice none n c → n = 0 ∧ c = 0
theorem nil_of {ao : Option Addr} {len cap : Nat} (h : ao = none → len = 0 ∧ cap = 0) : NilE (.slice ao len cap) := fun n c e => by
  injection e with e1 e2 e3
  obtain ⟨h1, h2⟩ := h e1
  exact ⟨by omega, by omega⟩
theorem open_tops {n len cap : Nat} {ao : Option Addr} {d : DataW H} {p : List MemPlace} (h : DataW.trod enc Tryd.prog W 0 (fun _ => true) held n 23 [.slice ao len cap] = some (d, p)) :
    ∃ L : List Top, L.length = len ∧ RowAt W (.slice ao len cap) len (tcells L) ∧ (∀ t ∈ L, In64 t.n ∧ In64 t.s) ∧ len + 1 ≤ Rows.uptoBulk d := by
  obtain ⟨D, hrow, hbk, hlc, _⟩ := open_flat Tryd.underlying23 cells62 (by omega) h
  rcases hrow with rfl | ⟨g, o, rfl, hrow⟩
  · exact ⟨[], rfl, ⟨ao, cap, rfl, Nat.zero_le _, .inl rfl⟩, by simp, bulks.one_le d⟩
  · have each : ∀ i, i < len → ∃ t : Top, (∀ j, j < 2 → W.cell? ⟨g, o + i * 2 + j, none⟩ = (tcell t)[j]?) ∧ In64 t.n ∧ In64 t.s := by
      intro i hi
      obtain ⟨cs, n', p', h1, _, h2⟩ := hrow i hi
      obtain ⟨t, rfl, w⟩ := top_one h1
      exact ⟨t, h2, w⟩
    obtain ⟨f, hf⟩ := choose_lt each
    refine ⟨(List.range len).map f, by simp, ⟨_, cap, rfl, hlc, .inr ⟨g, o, rfl, ?_⟩⟩, fun t ht => ?_, ?_⟩
    · unfold tcells
      simp only [List.length_map, List.length_range]
      refine row_each (k := 2) (fun _ => rfl) (by omega) (fun i hi j hj => ?_)
      rw [getD_map f default hi]
      exact (hf i hi).1 j hj
    · obtain ⟨i, hi, rfl⟩ := List.mem_map.1 ht
      exact (hf i (by simpa using hi)).2
    · have := bulk_each (k := 1) (D := D) (n := len) (fun i hi => bulks.one_le _)
      omega
theorem open_opns {n len cap : Nat} {ao : Option Addr} {d : DataW H} {p : List MemPlace} (h : DataW.trod enc Tryd.prog W 0 (fun _ => true) held n 56 [.slice ao len cap] = some (d, p)) :
    ∃ L : List Opn, L.length = len ∧ RowAt W (.slice ao len cap) len (ocells L) ∧ (∀ o ∈ L, In64O o) ∧ len + 1 ≤ Rows.uptoBulk d := by
  obtain ⟨D, hrow, hbk, hlc, _⟩ := open_flat Tryd.underlying56 cells65 (by omega) h
  rcases hrow with rfl | ⟨g, o, rfl, hrow⟩
  · exact ⟨[], rfl, ⟨ao, cap, rfl, Nat.zero_le _, .inl rfl⟩, by simp, bulks.one_le d⟩
  · have each : ∀ i, i < len → ∃ t : Opn, (∀ j, j < 4 → W.cell? ⟨g, o + i * 4 + j, none⟩ = (ocell t)[j]?) ∧ In64O t := by
      intro i hi
      obtain ⟨cs, n', p', h1, _, h2⟩ := hrow i hi
      obtain ⟨t, rfl, w⟩ := opn_one h1
      exact ⟨t, h2, w⟩
    obtain ⟨f, hf⟩ := choose_lt each
    refine ⟨(List.range len).map f, by simp, ⟨_, cap, rfl, hlc, .inr ⟨g, o, rfl, ?_⟩⟩, fun t ht => ?_, ?_⟩
    · unfold ocells
      simp only [List.length_map, List.length_range]
      refine row_each (k := 4) (fun _ => rfl) (by omega) (fun i hi j hj => ?_)
      rw [getD_map f default hi]
      exact (hf i hi).1 j hj
    · obtain ⟨i, hi, rfl⟩ := List.mem_map.1 ht
      exact (hf i (by simpa using hi)).2
    · have := bulk_each (k := 1) (D := D) (n := len) (fun i hi => bulks.one_le _)
      omega
theorem open_ints {n len cap : Nat} {ao : Option Addr} {d : DataW H} {p : List MemPlace} (h : DataW.trod enc Tryd.prog W 0 (fun _ => true) held n 25 [.slice ao len cap] = some (d, p)) :
    ∃ L : List Int, L.length = len ∧ RowAt W (.slice ao len cap) len (ncells L) ∧ (∀ x ∈ L, In64 x) ∧ len + 1 ≤ Rows.uptoBulk d := by
  obtain ⟨D, hrow, hbk, hlc, _⟩ := open_flat Tryd.underlying25 cells3 (by omega) h
  rcases hrow with rfl | ⟨g, o, rfl, hrow⟩
  · exact ⟨[], rfl, ⟨ao, cap, rfl, Nat.zero_le _, .inl rfl⟩, by simp, bulks.one_le d⟩
  · have each : ∀ i, i < len → ∃ z : Int, W.cell? ⟨g, o + i, none⟩ = some (.int .i64 z) ∧ In64 z := by
      intro i hi
      obtain ⟨cs, n', p', h1, _, h2⟩ := hrow i hi
      obtain ⟨z, rfl, w⟩ := int_one Tryd.underlying3 h1
      have := h2 0 (by omega)
      simp at this
      exact ⟨z, this, w⟩
    obtain ⟨f, hf⟩ := choose_lt each
    refine ⟨(List.range len).map f, by simp, ⟨_, cap, rfl, hlc, .inr ⟨g, o, rfl, ?_⟩⟩, fun t ht => ?_, ?_⟩
    · intro j hj
      have hj' : j < len := by simpa [ncells] using hj
      rw [(hf j hj').1]
      simp [ncells, hj']
    · obtain ⟨i, hi, rfl⟩ := List.mem_map.1 ht
      exact (hf i (by simpa using hi)).2
    · have := bulk_each (k := 1) (D := D) (n := len) (fun i hi => bulks.one_le _)
      omega
/-- A thread, as it comes in. -/
structure ThrIn (W : World) (t : Thr) (v : Value) : Prop where
  row : RowAt W v t.ops.length (ocells t.ops)
  nil : NilE v
  ops : ∀ o ∈ t.ops, In64O o
theorem thr_one {n : Nat} {cs : List Value} {y : DataW H × List MemPlace} (h : DataW.trod enc Tryd.prog W 0 (fun _ => true) held n 58 cs = some y) : ∃ (t : Thr) (v : Value), cs = hcell t v ∧ ThrIn W t v ∧ t.name.length ≤ Rows.uptoBulk y.1 ∧ t.ops.length ≤ Rows.uptoBulk y.1 := by
  obtain ⟨xs, m, _, hy, hl, hxl, hf⟩ := DataW.trod_struct Tryd.underlying58 h
  rw [cells58] at hl
  have hxl' : xs.length = 2 := hxl
  obtain ⟨v0, v1, rfl⟩ := ln2 hl
  obtain ⟨x0, x1, rfl⟩ := ln2 hxl'
  have g0 : DataW.trod enc Tryd.prog W 0 (fun _ => true) held m 9 (([v0, v1].drop 0).take (Tryd.prog.cellsOf 9)) = some x0 := hf 0 _ rfl
  have g1 : DataW.trod enc Tryd.prog W 0 (fun _ => true) held m 56 (([v0, v1].drop 1).take (Tryd.prog.cellsOf 56)) = some x1 := hf 1 _ rfl
  rw [cells9] at g0
  rw [cells56] at g1
  obtain ⟨s, e0, b0, _⟩ := DataW.trod_string Tryd.underlying9 g0
  obtain ⟨ao, len, cap, e1, hnil⟩ := slice_one Tryd.underlying56 g1
  simp at e0 e1
  subst e0 e1
  obtain ⟨x1a, x1b⟩ := x1
  obtain ⟨L, hL, hrow, hin, hb⟩ := open_opns g1
  subst hL
  refine ⟨⟨s.data.toList, L⟩, .slice ao L.length cap, by simp [hcell], ⟨hrow, nil_of hnil, hin⟩, ?_, ?_⟩
  · rw [hy]
    simp only [List.map_cons, List.map_nil, Rows.uptoBulk, Rows.uptoBulkAll]
    rw [b0]
    simp only [Rows.uptoBulk]
    omega
  · rw [hy]
    simp only [List.map_cons, List.map_nil, Rows.uptoBulk, Rows.uptoBulkAll]
    omega
theorem open_thrs {n len cap : Nat} {ao : Option Addr} {d : DataW H} {p : List MemPlace} (h : DataW.trod enc Tryd.prog W 0 (fun _ => true) held n 24 [.slice ao len cap] = some (d, p)) :
    ∃ (L : List Thr) (V : Nat → Value), L.length = len ∧ RowAt W (.slice ao len cap) len (hcells L V) ∧ (∀ i, i < len → ThrIn W (L.getD i default) (V i)) ∧ (∀ t ∈ L, t.name.length ≤ Rows.uptoBulk d ∧ t.ops.length ≤ Rows.uptoBulk d) ∧ len + 1 ≤ Rows.uptoBulk d := by
  obtain ⟨D, hrow, hbk, hlc, _⟩ := open_flat Tryd.underlying24 cells58 (by omega) h
  rcases hrow with rfl | ⟨g, o, rfl, hrow⟩
  · exact ⟨[], fun _ => .nilIface, rfl, ⟨ao, cap, rfl, Nat.zero_le _, .inl rfl⟩, fun i hi => by omega, by simp, bulks.one_le d⟩
  · have each : ∀ i, i < len → ∃ x : Thr × Value, (∀ j, j < 2 → W.cell? ⟨g, o + i * 2 + j, none⟩ = (hcell x.1 x.2)[j]?) ∧ ThrIn W x.1 x.2 ∧ x.1.name.length ≤ Rows.uptoBulk (D i) ∧ x.1.ops.length ≤ Rows.uptoBulk (D i) := by
      intro i hi
      obtain ⟨cs, n', p', h1, _, h2⟩ := hrow i hi
      obtain ⟨t, v, rfl, w⟩ := thr_one h1
      exact ⟨(t, v), h2, w⟩
    haveI : Inhabited (Thr × Value) := ⟨(default, .nilIface)⟩
    obtain ⟨f, hf⟩ := choose_lt each
    refine ⟨(List.range len).map fun i => (f i).1, fun i => (f i).2, by simp, ⟨_, cap, rfl, hlc, .inr ⟨g, o, rfl, ?_⟩⟩, fun i hi => ?_, fun t ht => ?_, ?_⟩
    · unfold hcells
      simp only [List.length_map, List.length_range]
      refine row_each (k := 2) (fun _ => rfl) (by omega) (fun i hi j hj => ?_)
      rw [getD_map (fun i => (f i).1) default hi]
      exact (hf i hi).1 j hj
    · rw [getD_map (fun i => (f i).1) default hi]
      exact (hf i hi).2.1
    · obtain ⟨i, hi, rfl⟩ := List.mem_map.1 ht
      have hi' : i < len := by simpa using hi
      obtain ⟨_, _, q1, q2⟩ := hf i hi'
      have := bulk_at (D := D) hi'
      exact ⟨by omega, by omega⟩
    · have := bulk_each (k := 1) (D := D) (n := len) (fun i hi => bulks.one_le _)
      omega
/-- A script, as it comes in. -/
structure ScrIn (w : World) (tv hv sv : Value) (V : Nat → Value) (S : Scr) : Prop where
  at_ : ScrAt w tv hv sv V S
  tn : NilE tv
  hn : NilE hv
  sn : NilE sv
  vn : ∀ i, i < S.thrs.length → NilE (V i)
  small : SmallS S
  nums : Nums S
  tight : S.tops.length ≤ 1048576
  tight2 : S.thrs.length ≤ 1048576 ∧ S.sch.length ≤ 1048576 ∧ ∀ t ∈ S.thrs, t.ops.length ≤ 1048576
set_option maxRecDepth 100000 in
theorem open_scr {base : Nat} {v : Value} {d : DataW H} {p : List MemPlace} (hval : Value.okWide Tryd.prog W .any base 27 v) (h : DataW.Trod enc Tryd.prog W 0 (fun _ => true) held 27 v d p) (hb : Rows.uptoBulk d ≤ 1048576) :
    ∃ tv hv sv V S, v = .agg #[tv, hv, sv, .int .i64 S.most] ∧ ScrIn W tv hv sv V S := by
  obtain ⟨cs, rfl, _, _⟩ : ∃ cs, v = .agg cs ∧ cs.size = Tryd.prog.cellsOf 27 ∧ Row.okWide Tryd.prog W .any base 27 cs := by
    unfold Value.okWide at hval
    rw [Tryd.underlying27] at hval
    exact hval
  obtain ⟨f, hf0⟩ := h
  have hf1 : DataW.trod enc Tryd.prog W 0 (fun _ => true) held f 27 cs.toList = some (d, p) := hf0
  obtain ⟨xs, m, _, hy, hl, hxl, hf⟩ := DataW.trod_struct Tryd.underlying27 hf1
  rw [cells27] at hl
  have hxl' : xs.length = 4 := hxl
  obtain ⟨v0, v1, v2, v3, hcs⟩ := ln4 hl
  obtain ⟨x0, x1, x2, x3, rfl⟩ := ln4 hxl'
  rw [hcs] at hf
  have g0 : DataW.trod enc Tryd.prog W 0 (fun _ => true) held m 23 (([v0, v1, v2, v3].drop 0).take (Tryd.prog.cellsOf 23)) = some x0 := hf 0 _ rfl
  have g1 : DataW.trod enc Tryd.prog W 0 (fun _ => true) held m 24 (([v0, v1, v2, v3].drop 1).take (Tryd.prog.cellsOf 24)) = some x1 := hf 1 _ rfl
  have g2 : DataW.trod enc Tryd.prog W 0 (fun _ => true) held m 25 (([v0, v1, v2, v3].drop 2).take (Tryd.prog.cellsOf 25)) = some x2 := hf 2 _ rfl
  have g3 : DataW.trod enc Tryd.prog W 0 (fun _ => true) held m 3 (([v0, v1, v2, v3].drop 3).take (Tryd.prog.cellsOf 3)) = some x3 := hf 3 _ rfl
  rw [cells23] at g0
  rw [cells24] at g1
  rw [cells25] at g2
  rw [cells3] at g3
  obtain ⟨a0, l0, c0, e0, n0⟩ := slice_one Tryd.underlying23 g0
  obtain ⟨a1, l1, c1, e1, n1⟩ := slice_one Tryd.underlying24 g1
  obtain ⟨a2, l2, c2, e2, n2⟩ := slice_one Tryd.underlying25 g2
  obtain ⟨z, e3, w3⟩ := int_one Tryd.underlying3 g3
  simp at e0 e1 e2 e3
  subst e0 e1 e2 e3
  obtain ⟨x0a, x0b⟩ := x0
  obtain ⟨x1a, x1b⟩ := x1
  obtain ⟨x2a, x2b⟩ := x2
  obtain ⟨T, hT, rT, iT, bT⟩ := open_tops g0
  obtain ⟨L, V, hL, rL, iL, nL, bL⟩ := open_thrs g1
  obtain ⟨Q, hQ, rQ, iQ, bQ⟩ := open_ints g2
  subst hT hL hQ
  have hbk : Rows.uptoBulk x0a ≤ 1048576 ∧ Rows.uptoBulk x1a ≤ 1048576 ∧ Rows.uptoBulk x2a ≤ 1048576 := by
    have e : d = _ := (congrArg Prod.fst hy)
    rw [e] at hb
    simp only [List.map_cons, List.map_nil, Rows.uptoBulk, Rows.uptoBulkAll] at hb
    omega
  refine ⟨.slice a0 T.length c0, .slice a1 L.length c1, .slice a2 Q.length c2, V, ⟨T, L, Q, z⟩, ?_, ⟨⟨rT, rL, rQ, fun i hi => (iL i hi).row⟩, nil_of n0, nil_of n1, nil_of n2, fun i hi => (iL i hi).nil, ?_, ?_, by show T.length ≤ _; omega, by show L.length ≤ _; omega, by show Q.length ≤ _; omega, fun t ht => by have := (nL t ht).2; omega⟩⟩
  · congr 1
    apply Array.toList_inj.1
    rw [hcs]
  · exact ⟨by show T.length ≤ _; omega, by show L.length ≤ _; omega, by show Q.length ≤ _; omega, fun t ht => by have := (nL t ht).2; omega, fun t ht => by have := (nL t ht).1; omega⟩
  · refine ⟨iT, iQ, fun t ht o ho => ?_, w3⟩
    obtain ⟨i, hi, rfl⟩ := List.getElem_of_mem ht
    have := (iL i hi).ops
    simp only [List.getD, List.getElem?_eq_getElem hi, Option.getD_some] at this
    exact this o ho
end
end Go.Proofs.YtdmhlhoimaeacaaDoor
