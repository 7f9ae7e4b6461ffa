/-
  Merged out of: Read Text TextK Equal SameS Alike Tell0 Tell1 Tell2 Tell3.
-/
import Derived.Test.YtdmhlhoimaeacaaDoorS4
import Derived.Laws.StructEq
import Derived.Test.YtdmhlhoimaeacaaDoorShelf
import Derived.Test.YtdmhlhoimaeacaaDoorS6
import Derived.Lib.AppendIntMem
import Derived.Lib.BufferKept
import Derived.BigQuiet
import Derived.Deep.RegionWith
import Derived.Laws.Concat
import Derived.Deep.RegionHeld3
/-
  Rows that are read: predicates; structs compared. No walk.
-/
namespace Go.Proofs.YtdmhlhoimaeacaaDoor
open Go.RowKit
set_option linter.unusedVariables false

theorem held62 : Tryd.prog.stoodInHeld 62 = false := by kernel_rfl
theorem held82 : Tryd.prog.stoodInHeld 82 = false := by kernel_rfl
theorem held65 : Tryd.prog.stoodInHeld 65 = false := by kernel_rfl
theorem part2 (cs : Array Value) (off : Nat) (v : Value) (w : World) (h : cs[off]? = some v) : (part 2 cs off).run Tryd.prog w = .ok v w := by
  simp [part, isAgg, run_underlying Tryd.underlying2, h, Result.andThen]
theorem part3 (cs : Array Value) (off : Nat) (v : Value) (w : World) (h : cs[off]? = some v) : (part 3 cs off).run Tryd.prog w = .ok v w := by
  simp [part, isAgg, run_underlying Tryd.underlying3, h, Result.andThen]
theorem eq2 (d : Nat) (x y : Int) (w : World) : (Op.equalIn (d + 1) 2 (.int .i64 x) (.int .i64 y)).run Tryd.prog w = .ok (decide (x = y)) w := by
  simp only [Op.equalIn, Sem.run_bind, run_underlying Tryd.underlying2, Result.andThen_ok]
  by_cases h : x = y <;> simp [h]
theorem eq3 (d : Nat) (x y : Int) (w : World) : (Op.equalIn (d + 1) 3 (.int .i64 x) (.int .i64 y)).run Tryd.prog w = .ok (decide (x = y)) w := by
  simp only [Op.equalIn, Sem.run_bind, run_underlying Tryd.underlying3, Result.andThen_ok]
  by_cases h : x = y <;> simp [h]
theorem eqf2 (d : Nat) (xs ys : Array Value) (f : Field) (fs : List Field) (x y : Int) (w : World) (hn : f.name ≠ "_") (ht : f.type = 2) (hx : xs[f.offset]? = some (.int .i64 x)) (hy : ys[f.offset]? = some (.int .i64 y)) :
    (Op.eqFields (d + 1) xs ys (f :: fs)).run Tryd.prog w = if x = y then (Op.eqFields (d + 1) xs ys fs).run Tryd.prog w else .ok false w := by
  simp only [Op.eqFields, if_pos hn, Sem.run_bind, ht, part2 xs _ _ w hx, part2 ys _ _ w hy, Result.andThen_ok, eq2]
  by_cases h : x = y <;> simp [h]
theorem eqf3 (d : Nat) (xs ys : Array Value) (f : Field) (fs : List Field) (x y : Int) (w : World) (hn : f.name ≠ "_") (ht : f.type = 3) (hx : xs[f.offset]? = some (.int .i64 x)) (hy : ys[f.offset]? = some (.int .i64 y)) :
    (Op.eqFields (d + 1) xs ys (f :: fs)).run Tryd.prog w = if x = y then (Op.eqFields (d + 1) xs ys fs).run Tryd.prog w else .ok false w := by
  simp only [Op.eqFields, if_pos hn, Sem.run_bind, ht, part3 xs _ _ w hx, part3 ys _ _ w hy, Result.andThen_ok, eq3]
  by_cases h : x = y <;> simp [h]
def topV (t : Top) : Value := .agg #[.int .i64 t.n, .int .i64 t.s]
def opV (o : Opn) : Value := .agg #[.int .i64 o.k, .int .i64 o.a, .int .i64 o.b, .int .i64 o.c]
theorem dec_top (t u : Top) : decide (t = u) = (decide (t.n = u.n) && decide (t.s = u.s)) := by
  cases t; cases u
  simp [Bool.decide_and]
theorem dec_opn (t u : Opn) : decide (t = u) = (decide (t.k = u.k) && (decide (t.a = u.a) && (decide (t.b = u.b) && decide (t.c = u.c)))) := by
  cases t; cases u
  simp [Bool.decide_and]
theorem equal_top (t u : Top) (w : World) : (Op.equal 62 (topV t) (topV u)).run Tryd.prog w = .ok (decide (t = u)) w := by
  have hfs : Tryd.prog.underlying 62 = some (.struct (Tryd.prog.fieldsOf 62)) := by simp [Program.fieldsOf, Tryd.underlying62]
  have h := run_equalIn_struct (P := Tryd.prog) w 9999 62 #[.int .i64 t.n, .int .i64 t.s] #[.int .i64 u.n, .int .i64 u.s] hfs held62
  refine h.trans ?_
  simp only [Program.fieldsOf, Tryd.underlying62]
  rw [eqf2 _ _ _ _ _ t.n u.n w (by decide) rfl rfl rfl, eqf3 _ _ _ _ _ t.s u.s w (by decide) rfl rfl rfl, dec_top]
  simp only [Op.eqFields, Sem.run_pure]
  by_cases h1 : t.n = u.n <;> by_cases h2 : t.s = u.s <;> simp [h1, h2]
theorem equal_topR (t u : Top) (w : World) : (Op.equal 82 (topV t) (topV u)).run Tryd.prog w = .ok (decide (t = u)) w := by
  have hfs : Tryd.prog.underlying 82 = some (.struct (Tryd.prog.fieldsOf 82)) := by simp [Program.fieldsOf, Tryd.underlying82]
  have h := run_equalIn_struct (P := Tryd.prog) w 9999 82 #[.int .i64 t.n, .int .i64 t.s] #[.int .i64 u.n, .int .i64 u.s] hfs held82
  refine h.trans ?_
  simp only [Program.fieldsOf, Tryd.underlying82]
  rw [eqf2 _ _ _ _ _ t.n u.n w (by decide) rfl rfl rfl, eqf3 _ _ _ _ _ t.s u.s w (by decide) rfl rfl rfl, dec_top]
  simp only [Op.eqFields, Sem.run_pure]
  by_cases h1 : t.n = u.n <;> by_cases h2 : t.s = u.s <;> simp [h1, h2]
theorem equal_opn (t u : Opn) (w : World) : (Op.equal 65 (opV t) (opV u)).run Tryd.prog w = .ok (decide (t = u)) w := by
  have hfs : Tryd.prog.underlying 65 = some (.struct (Tryd.prog.fieldsOf 65)) := by simp [Program.fieldsOf, Tryd.underlying65]
  have h := run_equalIn_struct (P := Tryd.prog) w 9999 65 #[.int .i64 t.k, .int .i64 t.a, .int .i64 t.b, .int .i64 t.c] #[.int .i64 u.k, .int .i64 u.a, .int .i64 u.b, .int .i64 u.c] hfs held65
  refine h.trans ?_
  simp only [Program.fieldsOf, Tryd.underlying65]
  rw [eqf3 _ _ _ _ _ t.k u.k w (by decide) rfl rfl rfl, eqf2 _ _ _ _ _ t.a u.a w (by decide) rfl rfl rfl, eqf2 _ _ _ _ _ t.b u.b w (by decide) rfl rfl rfl, eqf2 _ _ _ _ _ t.c u.c w (by decide) rfl rfl rfl, dec_opn]
  simp only [Op.eqFields, Sem.run_pure]
  by_cases h1 : t.k = u.k <;> by_cases h2 : t.a = u.a <;> by_cases h3 : t.b = u.b <;> by_cases h4 : t.c = u.c <;> simp [h1, h2, h3, h4]
theorem neq_top (t u : Top) (w : World) : (binOp .neq 62 (.agg #[.int .i64 t.n, .int .i64 t.s]) (.agg #[.int .i64 u.n, .int .i64 u.s])).run Tryd.prog w = .ok (.bool (!decide (t = u))) w := by
  have h := equal_top t u w
  unfold topV at h
  simp only [binOp, Sem.run_bind, h, Result.andThen_ok, Sem.run_pure]
theorem neq_topR (t u : Top) (w : World) : (binOp .neq 82 (.agg #[.int .i64 t.n, .int .i64 t.s]) (.agg #[.int .i64 u.n, .int .i64 u.s])).run Tryd.prog w = .ok (.bool (!decide (t = u))) w := by
  have h := equal_topR t u w
  unfold topV at h
  simp only [binOp, Sem.run_bind, h, Result.andThen_ok, Sem.run_pure]
theorem neq_opn (t u : Opn) (w : World) : (binOp .neq 65 (.agg #[.int .i64 t.k, .int .i64 t.a, .int .i64 t.b, .int .i64 t.c]) (.agg #[.int .i64 u.k, .int .i64 u.a, .int .i64 u.b, .int .i64 u.c])).run Tryd.prog w = .ok (.bool (!decide (t = u))) w := by
  have h := equal_opn t u w
  unfold opV at h
  simp only [binOp, Sem.run_bind, h, Result.andThen_ok, Sem.run_pure]
theorem eql_opn (t u : Opn) (w : World) : (binOp .eql 65 (.agg #[.int .i64 t.k, .int .i64 t.a, .int .i64 t.b, .int .i64 t.c]) (.agg #[.int .i64 u.k, .int .i64 u.a, .int .i64 u.b, .int .i64 u.c])).run Tryd.prog w = .ok (.bool (decide (t = u))) w := by
  have h := equal_opn t u w
  unfold opV at h
  simp only [binOp, Sem.run_bind, h, Result.andThen_ok, Sem.run_pure]

/-- v is a slice of n elements whose cells read as xs. -/
def RowAt (w : World) (v : Value) (n : Nat) (xs : List Value) : Prop :=
  ∃ p c, v = .slice p n c ∧ n ≤ c ∧ (xs = [] ∨ ∃ g o, p = some ⟨g, o, none⟩ ∧ ∀ j, j < xs.length → w.cell? ⟨g, o + j, none⟩ = xs[j]?)
theorem RowAt.below {w w1 : World} {v : Value} {n : Nat} {xs : List Value} (h : RowAt w v n xs) (hb : Below w.heap.size w w1) : RowAt w1 v n xs := by
  obtain ⟨p, c, e, h1, h2⟩ := h
  refine ⟨p, c, e, h1, ?_⟩
  rcases h2 with h2 | ⟨g, o, e2, h2⟩
  · exact .inl h2
  · refine .inr ⟨g, o, e2, fun j hj => ?_⟩
    have h3 := h2 j hj
    rw [List.getElem?_eq_getElem hj] at h3 ⊢
    exact (hb.cell (p := ⟨g, o + j, none⟩) (World.block_lt_of_cell? w _ h3)).trans h3
theorem RowAt.of_own {w : World} {N e k n : Nat} {v : Value} {xs : List Value} (h : w.ownsRow N e k v n xs) : RowAt w v n xs := by
  obtain ⟨p, c, rfl⟩ := own_slice h
  have hcap : n ≤ c := by
    rcases h.2 with ⟨e1, h0⟩ | ⟨q, cap, _, e1, _, _, hc, _⟩
    · rw [h0]; exact Nat.zero_le _
    · injection e1 with a b c'; rw [c']; exact hc
  refine ⟨p, c, rfl, hcap, ?_⟩
  rcases h.2 with ⟨e1, h0⟩ | ⟨q, cap, cur, e1, _⟩
  · left
    have := h.1
    rw [h0, Nat.zero_mul] at this
    exact List.eq_nil_of_length_eq_zero this
  · right
    injection e1 with e2 e3 e4
    subst e2
    refine ⟨q, 0, rfl, fun j hj => ?_⟩
    rw [Nat.zero_add]
    have hl := h.1
    exact h.cellAt j (by omega)
/-- A script that is read: its rows. -/
structure ScrAt (w : World) (tv hv sv : Value) (V : Nat → Value) (S : Scr) : Prop where
  tops : RowAt w tv S.tops.length (tcells S.tops)
  thrs : RowAt w hv S.thrs.length (hcells S.thrs V)
  sch : RowAt w sv S.sch.length (ncells S.sch)
  each : ∀ i, i < S.thrs.length → RowAt w (V i) (S.thrs.getD i default).ops.length (ocells (S.thrs.getD i default).ops)
theorem ScrAt.below {w w1 : World} {tv hv sv : Value} {V : Nat → Value} {S : Scr} (h : ScrAt w tv hv sv V S) (hb : Below w.heap.size w w1) : ScrAt w1 tv hv sv V S :=
  ⟨h.tops.below hb, h.thrs.below hb, h.sch.below hb, fun i hi => (h.each i hi).below hb⟩
theorem RowsS.read {w : World} {N eT eH : Nat} {tv hv sv : Value} {V : Nat → Value} {S : Scr} (h : RowsS w N eT eH tv hv sv V S) : ScrAt w tv hv sv V S :=
  ⟨.of_own h.tops, .of_own h.thrs, .of_own h.sch, fun i hi => .of_own (h.each i hi)⟩
/-- A script's sizes. -/
structure SmallS (S : Scr) : Prop where
  tops : S.tops.length ≤ 4000000
  thrs : S.thrs.length ≤ 4000000
  sch : S.sch.length ≤ 4000000
  ops : ∀ t ∈ S.thrs, t.ops.length ≤ 4000000
  names : ∀ t ∈ S.thrs, t.name.length ≤ 4000000
theorem getD_mem {L : List Thr} {i : Nat} (h : i < L.length) : L.getD i default ∈ L := by
  simp only [List.getD]
  rw [List.getElem?_eq_getElem h]
  exact List.getElem_mem h
/-- Two lists agree as far as i. -/
def Agree {α : Type} (L R : List α) (i : Nat) : Prop := ∀ j : Nat, j < i → L[j]? = R[j]?
theorem agree_all {α : Type} {L R : List α} (hl : L.length = R.length) (h : Agree L R L.length) : L = R := by
  refine List.ext_getElem? fun j => ?_
  rcases Nat.lt_or_ge j L.length with h1 | h1
  · exact h j h1
  · rw [List.getElem?_eq_none h1, List.getElem?_eq_none (by omega)]
theorem agree_succ {α : Type} {L R : List α} {i : Nat} (h : Agree L R i) (d : α) (hi : i < L.length) (hi2 : i < R.length) (he : L.getD i d = R.getD i d) : Agree L R (i + 1) := fun j hj => by
  by_cases e : j = i
  · subst e
    simp only [List.getD, List.getElem?_eq_getElem hi, List.getElem?_eq_getElem hi2, Option.getD_some] at he
    rw [List.getElem?_eq_getElem hi, List.getElem?_eq_getElem hi2, he]
  · exact h j (by omega)
theorem agree_not {α : Type} {L R : List α} {i : Nat} (d : α) (he : L.getD i d ≠ R.getD i d) : L ≠ R := fun e => he (by rw [e])
end Go.Proofs.YtdmhlhoimaeacaaDoor

/-
  The contracts of strings.Builder's copyCheck and WriteString over this program's own text of them.
-/
namespace Go.Proofs.YtdmhlhoimaeacaaDoor
open Go.RowKit
set_option linter.unusedVariables false

theorem info5 : (Tryd.prog.info? 5).map (fun i => (i.zero, i.size, i.bytes)) = some (some (.int .u8 0), 1, 1) := by kernel_rfl
theorem info86 : (Tryd.prog.info? 86).map (·.size) = some 2 := by kernel_rfl
theorem lies86 : liesAt Tryd.prog Tryd.prog.depth 86 (2 / Tryd.prog.cellsOf 86) 0 86 1 = true := by kernel_rfl

set_option maxHeartbeats 1000000 in
set_option maxRecDepth 100000 in
theorem check_used (b : Nat) (w : World) (h0 : w.cell? ⟨b, 0, none⟩ = some (.pointer (some ⟨b, 0, none⟩))) :
    Calls Tryd.prog 60 #[.pointer (some ⟨b, 0, none⟩)] w fun e w' => e = .returned (.tuple #[]) ∧ w' = w := by
  obtain ⟨j, hj, _⟩ := Option.map_eq_some_iff.1 info86
  go_enter Tryd.func60, Tryd.ntmps60
  go_wp2
  rw [Lib.run_neq_ptr_same w _ Tryd.underlying84 hj]
  go_wp2
  go_end0
  exact ⟨rfl, rfl⟩

set_option maxHeartbeats 1000000 in
set_option maxRecDepth 100000 in
theorem check_fresh (b : Nat) (w : World) (h0 : w.cell? ⟨b, 0, none⟩ = some (.pointer none)) (hsh : w.shape? b = some (86, 2)) (hfz : w.frozen? ⟨b, 0, none⟩ = false) :
    Calls Tryd.prog 60 #[.pointer (some ⟨b, 0, none⟩)] w fun e w' => e = .returned (.tuple #[]) ∧ w' = w.setCell ⟨b, 0, none⟩ (.pointer (some ⟨b, 0, none⟩)) := by
  obtain ⟨j, hj, hjs⟩ := Option.map_eq_some_iff.1 info86
  go_enter Tryd.func60, Tryd.ntmps60
  go_wp2
  rw [Lib.run_to_unsafe w ⟨b, 0, none⟩ Tryd.underlying84 Tryd.underlying129 hj (by rw [hjs]; decide) hsh (Nat.zero_lt_succ 1)]
  simp only [Result.andThen]
  rw [Oper.upon_value]
  go_wp2
  rw [run_callFunc_extern Tryd.func74 (by kernel_rfl) (by kernel_rfl) (by kernel_rfl) (e := Extern.AbiNoEscape.same) (by kernel_rfl)]
  rw [Lib.run_noEscape]
  simp only [Result.andThen]
  rw [Oper.upon_value]
  go_wp2
  rw [Lib.run_from_unsafe w ⟨b, 0, none⟩ Tryd.underlying129 Tryd.underlying84 hj hsh lies86]
  simp only [Result.andThen]
  rw [Oper.upon_value]
  go_wp2
  go_end0
  exact ⟨rfl, rfl⟩

theorem check_walk (B b : Nat) (bs : List Value) (w : World) (h : Lib.IsBuilder 86 5 B b bs w) :
    Calls Tryd.prog 60 #[.pointer (some ⟨b, 0, none⟩)] w fun e w' => e = .returned (.tuple #[]) ∧ (Lib.BuilderAt 86 5 B b (.pointer (some ⟨b, 0, none⟩)) bs w' ∧ Below B w w') := by
  rcases h with h | h
  · refine (check_fresh b w h.cell0 h.shape h.frozen0).mono ?_
    rintro e w' ⟨rfl, rfl⟩
    exact ⟨rfl, h.used _, (Below.refl B w).setCell (p := ⟨b, 0, none⟩) h.1 _⟩
  · refine (check_used b w h.cell0).mono ?_
    rintro e w' ⟨rfl, rfl⟩
    exact ⟨rfl, h, Below.refl B _⟩

set_option maxHeartbeats 2000000 in
set_option maxRecDepth 100000 in
theorem writeString_walk (B b : Nat) (bs : List Value) (s : ByteArray) (w : World) (h : Lib.IsBuilder 86 5 B b bs w) (hlen : bs.length + s.size ≤ 140737488355328) (hBw : B ≤ w.heap.size) :
    Calls Tryd.prog 33 #[.pointer (some ⟨b, 0, none⟩), .string s] w fun e w' => e = .returned (.tuple #[.int .i64 s.size, .nilIface]) ∧ (Lib.BuilderAt 86 5 B b (.pointer (some ⟨b, 0, none⟩)) (bs ++ Lib.strCells s) w' ∧ Below B w w') := by
  obtain ⟨i0, hi, hz0, hz1, hz2⟩ := info_parts info5
  go_enter Tryd.func33, Tryd.ntmps33
  go_wp2_with (go_at_call 60; refine (check_walk B b bs _ h).mono ?_)
  rintro e w1 ⟨rfl, h1, hb1⟩
  obtain ⟨hB, v, hbk, hown, hne⟩ := h1
  have c0 : w1.cell? ⟨b, 0, none⟩ = some (.pointer (some ⟨b, 0, none⟩)) := by rw [Lib.cell_of_heap hbk]; rfl
  have c1 : w1.cell? ⟨b, 1, none⟩ = some v := by rw [Lib.cell_of_heap hbk]; rfl
  go_wp2_with (at_builtin; refine Lib.wpList_append_own_string _ rfl _ _ 42 9 rfl B 5 i0 Tryd.underlying42 Tryd.underlying9 hi hz0 hz1 hz2 _ _ _ rfl hown s rfl ?c3 ?c4 ?c5 ?_)
  case c3 => unfold maxLen; omega
  case c4 => omega
  case c5 => have := hb1.size; omega
  intro v' w2 hown' hgrow _
  have hlt : b < w1.heap.size := by
    rcases Nat.lt_or_ge b w1.heap.size with h' | h'
    · exact h'
    · simp [Array.getElem?_eq_none h'] at hbk
  have hb2 : w2.heap[b]? = some (.cells #[.pointer (some ⟨b, 0, none⟩), v] 86 (0, 0)) := by
    rw [hgrow.block b hlt (fun e => hne e.symm)]
    exact hbk
  have d0 : w2.cell? ⟨b, 0, none⟩ = some (.pointer (some ⟨b, 0, none⟩)) := by rw [Lib.cell_of_heap hb2]; rfl
  have d1 : w2.cell? ⟨b, 1, none⟩ = some v := by rw [Lib.cell_of_heap hb2]; rfl
  have f1 : w2.frozen? ⟨b, 1, none⟩ = false := Lib.frozen_of_heap hb2 1
  obtain ⟨ao, n', cap, rfl⟩ : ∃ ao n' cap, v' = .slice ao n' cap := by
    rcases hown'.2 with ⟨hv, _⟩ | ⟨g, cap, cur, hv, _⟩
    · exact ⟨_, _, _, hv⟩
    · exact ⟨_, _, _, hv⟩
  go_wp2
  go_ret2
  refine ⟨rfl, ?_, ?_⟩
  · exact Lib.BuilderAt.put (T := 86) (e := 5) hB hb2 (bs' := bs ++ Lib.strCells s) (by simpa [Lib.strCells_length] using hown') (by decide)
  · exact (hb1.grown hgrow (by have := hb1.size; omega) (fun k hk => (hown.lt k hk).1)).setCell (p := ⟨b, 1, none⟩) hB _

theorem builder_below {B b : Nat} {p : Value} {bs : List Value} {w w' : World} (h : Lib.BuilderAt 86 5 B b p bs w) (hb : Below w.heap.size w w') : Lib.BuilderAt 86 5 B b p bs w' := by
  have hlt := h.lt
  obtain ⟨h1, v, hbk, hown, hne⟩ := h
  refine ⟨h1, v, (hb.block b hlt).trans hbk, ?_, hne⟩
  refine hown.kept (row := none) ⟨hb.os, hb.tape, hb.output, hb.size, fun k hk _ => hb.block k hk⟩ ?_
  cases v.ownBlock with
  | none => exact .inl rfl
  | some x => exact .inr (by simp)
theorem isBuilder_below {B b : Nat} {bs : List Value} {w w' : World} (h : Lib.IsBuilder 86 5 B b bs w) (hb : Below w.heap.size w w') : Lib.IsBuilder 86 5 B b bs w' := by
  rcases h with h | h
  · exact .inl (builder_below h hb)
  · exact .inr (builder_below h hb)
theorem str_bytes (l : List UInt8) : Lib.strCells ⟨l.toArray⟩ = Lib.byteCells l := by simp [Lib.strCells, Lib.byteCells]
theorem bytes_app (a b : List UInt8) : Lib.byteCells (a ++ b) = Lib.byteCells a ++ Lib.byteCells b := by simp [Lib.byteCells]
theorem bytes_len (a : List UInt8) : (Lib.byteCells a).length = a.length := by simp [Lib.byteCells]
theorem builder_new (w : World) : Lib.IsBuilder 86 5 w.heap.size w.heap.size [] (w.alloc (.cells #[.pointer none, .slice none 0 0] 86)) :=
  .inl ⟨Nat.le_refl _, .slice none 0 0, heap_alloc_new w _, World.ownsRow_nil _ _ _ _, by simp [Value.ownBlock]⟩
/-- A text more. -/
theorem write_more (B b : Nat) (T x : Word) (w : World) (h : Lib.IsBuilder 86 5 B b (Lib.byteCells T) w) (hlen : T.length + x.length ≤ 140737488355328) (hBw : B ≤ w.heap.size) :
    Calls Tryd.prog 33 #[.pointer (some ⟨b, 0, none⟩), .string ⟨x.toArray⟩] w fun e w' => e = .returned (.tuple #[.int .i64 x.length, .nilIface]) ∧ Lib.IsBuilder 86 5 B b (Lib.byteCells (T ++ x)) w' ∧ Below B w w' := by
  have h := writeString_walk B b _ ⟨x.toArray⟩ w h (by rw [bytes_len, size_mk]; exact hlen) hBw
  rw [size_mk, str_bytes, ← bytes_app] at h
  exact h.mono fun e w' ⟨h1, h2, h3⟩ => ⟨h1, .inr h2, h3⟩
end Go.Proofs.YtdmhlhoimaeacaaDoor

/-
  WriteString over this program's own text, and what else it leaves as it was.
-/
namespace Go.Proofs.YtdmhlhoimaeacaaDoor
open Go.RowKit
set_option linter.unusedVariables false

theorem check_k (B b : Nat) (bs : List Value) (w : World) (h : Lib.IsBuilder 86 5 B b bs w) :
    Calls Tryd.prog 60 #[.pointer (some ⟨b, 0, none⟩)] w fun e w' => e = .returned (.tuple #[]) ∧ (Lib.BuilderAt 86 5 B b (.pointer (some ⟨b, 0, none⟩)) bs w' ∧ Below B w w' ∧ Lib.OthersKept 5 (some b) w w') := by
  rcases h with h | h
  · refine (check_fresh b w h.cell0 h.shape h.frozen0).mono ?_
    rintro e w' ⟨rfl, rfl⟩
    exact ⟨rfl, h.used _, (Below.refl B w).setCell (p := ⟨b, 0, none⟩) h.1 _, (Lib.OthersKept.refl 5 (some b) w).setCell ⟨b, 0, none⟩ rfl _⟩
  · refine (check_used b w h.cell0).mono ?_
    rintro e w' ⟨rfl, rfl⟩
    exact ⟨rfl, h, Below.refl B _, Lib.OthersKept.refl _ _ _⟩

set_option maxHeartbeats 2000000 in
set_option maxRecDepth 100000 in
theorem writeString_k (B b : Nat) (bs : List Value) (s : ByteArray) (w : World) (h : Lib.IsBuilder 86 5 B b bs w) (hlen : bs.length + s.size ≤ 140737488355328) (hBw : B ≤ w.heap.size) :
    Calls Tryd.prog 33 #[.pointer (some ⟨b, 0, none⟩), .string s] w fun e w' => e = .returned (.tuple #[.int .i64 s.size, .nilIface]) ∧ (Lib.BuilderAt 86 5 B b (.pointer (some ⟨b, 0, none⟩)) (bs ++ Lib.strCells s) w' ∧ Below B w w' ∧ Lib.OthersKept 5 (some b) w w') := by
  obtain ⟨i0, hi, hz0, hz1, hz2⟩ := info_parts info5
  go_enter Tryd.func33, Tryd.ntmps33
  go_wp2_with (go_at_call 60; refine (check_k B b bs _ h).mono ?_)
  rintro e w1 ⟨rfl, h1, hb1, ho1⟩
  obtain ⟨hB, v, hbk, hown, hne⟩ := h1
  have c0 : w1.cell? ⟨b, 0, none⟩ = some (.pointer (some ⟨b, 0, none⟩)) := by rw [Lib.cell_of_heap hbk]; rfl
  have c1 : w1.cell? ⟨b, 1, none⟩ = some v := by rw [Lib.cell_of_heap hbk]; rfl
  go_wp2_with (at_builtin; refine Lib.wpList_append_own_string _ rfl _ _ 42 9 rfl B 5 i0 Tryd.underlying42 Tryd.underlying9 hi hz0 hz1 hz2 _ _ _ rfl hown s rfl ?c3 ?c4 ?c5 ?_)
  case c3 => unfold maxLen; omega
  case c4 => omega
  case c5 => have := hb1.size; omega
  intro v' w2 hown' hgrow _
  have hlt : b < w1.heap.size := by
    rcases Nat.lt_or_ge b w1.heap.size with h' | h'
    · exact h'
    · simp [Array.getElem?_eq_none h'] at hbk
  have hb2 : w2.heap[b]? = some (.cells #[.pointer (some ⟨b, 0, none⟩), v] 86 (0, 0)) := by
    rw [hgrow.block b hlt (fun e => hne e.symm)]
    exact hbk
  have d0 : w2.cell? ⟨b, 0, none⟩ = some (.pointer (some ⟨b, 0, none⟩)) := by rw [Lib.cell_of_heap hb2]; rfl
  have d1 : w2.cell? ⟨b, 1, none⟩ = some v := by rw [Lib.cell_of_heap hb2]; rfl
  have f1 : w2.frozen? ⟨b, 1, none⟩ = false := Lib.frozen_of_heap hb2 1
  obtain ⟨ao, n', cap, rfl⟩ : ∃ ao n' cap, v' = .slice ao n' cap := by
    rcases hown'.2 with ⟨hv, _⟩ | ⟨g, cap, cur, hv, _⟩
    · exact ⟨_, _, _, hv⟩
    · exact ⟨_, _, _, hv⟩
  go_wp2
  go_ret2
  refine ⟨rfl, ?_, ?_, ?_⟩
  · exact Lib.BuilderAt.put (T := 86) (e := 5) hB hb2 (bs' := bs ++ Lib.strCells s) (by simpa [Lib.strCells_length] using hown') (by decide)
  · exact (hb1.grown hgrow (by have := hb1.size; omega) (fun k hk => (hown.lt k hk).1)).setCell (p := ⟨b, 1, none⟩) hB _
  · exact (ho1.grown hgrow (fun g hg => by
      rcases hown.2 with ⟨e1, _⟩ | ⟨q, cap, cur, e1, hq, hx, _⟩
      · rw [e1] at hg; cases hg
      · rw [e1] at hg; cases hg; exact ⟨_, _, hx⟩)).setCell ⟨b, 1, none⟩ rfl _

/-- A text more; the blocks of other types are as they were. -/
theorem write_k (B b : Nat) (T x : Word) (w : World) (h : Lib.IsBuilder 86 5 B b (Lib.byteCells T) w) (hlen : T.length + x.length ≤ 140737488355328) (hBw : B ≤ w.heap.size) :
    Calls Tryd.prog 33 #[.pointer (some ⟨b, 0, none⟩), .string ⟨x.toArray⟩] w fun e w' => e = .returned (.tuple #[.int .i64 x.length, .nilIface]) ∧ Lib.IsBuilder 86 5 B b (Lib.byteCells (T ++ x)) w' ∧ Below B w w' ∧ Lib.OthersKept 5 (some b) w w' := by
  have h := writeString_k B b _ ⟨x.toArray⟩ w h (by rw [bytes_len, size_mk]; exact hlen) hBw
  rw [size_mk, str_bytes, ← bytes_app] at h
  exact h.mono fun e w' ⟨h1, h2, h3, h4⟩ => ⟨h1, .inr h2, h3, h4⟩
end Go.Proofs.YtdmhlhoimaeacaaDoor

/-
  Lists compared: the program's equal (f47, f48, f49), the law's sameNumbers (f21) and sameOps (f25). (Printed by wip/gen/equal.py.)
-/
namespace Go.Proofs.YtdmhlhoimaeacaaDoor
open Go.RowKit
set_option linter.unusedVariables false


set_option maxRecDepth 100000 in
set_option maxHeartbeats 4000000 in
theorem eqTops_walk (va vb : Value) (L R : List Top) (w : World) (ha : RowAt w va L.length (tcells L)) (hb : RowAt w vb R.length (tcells R)) (hl : L.length ≤ 4000000) (hr : R.length ≤ 4000000) :
    Calls Tryd.prog 47 #[va, vb] w fun e w' => e = .returned (.bool (decide (L = R))) ∧ ∃ n, w' = w.drewN n := by
  obtain ⟨pa, ca, rfl, hca, hra⟩ := ha
  obtain ⟨pb, cb, rfl, hcb, hrb⟩ := hb
  by_cases hlen : L.length = R.length
  · have hlb : ((L.length : Int) != (R.length : Int)) = false := by rw [hlen]; simp
    have HL := Lib.hid hlen
    have HRA := Lib.hid hra
    have HRB := Lib.hid hrb
    generalize hln : L.length = n at *
    have HLN := Lib.hid hln
    rw [← hlen] at hlb ⊢
    have HRN : Hid (R.length = n) := Lib.hid hlen.symm
    clear hra hrb hlen hln hr hcb
    generalize hq : decide (L = R) = q at *
    have HQ := Lib.hid hq
    clear hq
    go_enter Tryd.func47, Tryd.ntmps47
    go_wp2_with fail
    go_loopw [13] (fun iv wr => ∃ i : Nat, i ≤ n ∧ iv = .int .i64 i ∧ Agree L R i ∧ ∃ m, wr = w.drewN m) (fun iv _ => n - (intOf iv).toNat)
    case atStart => exact ⟨0, Nat.zero_le _, rfl, fun j hj => by omega, 0, rfl⟩
    case round =>
      obtain ⟨i, hi, rfl, hag, m, rfl⟩ := hrel
      have HAG := Lib.hid hag
      clear hag
      by_cases hin : i < n
      · have hiL : i < L.length := by rw [HLN.out]; exact hin
        have hiR : i < R.length := by rw [HRN.out]; exact hin
        obtain ⟨ga, oa, rfl, hA⟩ := HRA.out.resolve_left (by intro e; have := congrArg List.length e; rw [tcells_length] at this; simp at this; omega)
        obtain ⟨gb, ob, rfl, hB⟩ := HRB.out.resolve_left (by intro e; have := congrArg List.length e; rw [tcells_length] at this; simp at this; omega)
        have A0 : ∀ j, j < 2 → w.cell? ⟨ga, oa + (i * 2 + j), none⟩ = (tcell (L.getD i default))[j]? := fun j hj => by
          have h := hA (i * 2 + j) (by rw [tcells_length]; omega)
          rw [tcells_get _ _ _ hiL hj] at h
          exact h
        have B0 : ∀ j, j < 2 → w.cell? ⟨gb, ob + (i * 2 + j), none⟩ = (tcell (R.getD i default))[j]? := fun j hj => by
          have h := hB (i * 2 + j) (by rw [tcells_length]; omega)
          rw [tcells_get _ _ _ hiR hj] at h
          exact h
        have a0 : w.cell? ⟨ga, oa + i * 2, none⟩ = some (.int .i64 (L.getD i default).n) := by have h := A0 0 (by omega); rw [← Nat.add_assoc] at h; exact h
        have b0 : w.cell? ⟨gb, ob + i * 2, none⟩ = some (.int .i64 (R.getD i default).n) := by have h := B0 0 (by omega); rw [← Nat.add_assoc] at h; exact h
        have a1 : w.cell? ⟨ga, oa + i * 2 + 1, none⟩ = some (.int .i64 (L.getD i default).s) := by have h := A0 1 (by omega); rw [← Nat.add_assoc] at h; exact h
        have b1 : w.cell? ⟨gb, ob + i * 2 + 1, none⟩ = some (.int .i64 (R.getD i default).s) := by have h := B0 1 (by omega); rw [← Nat.add_assoc] at h; exact h
        generalize hx : L.getD i default = x at *
        generalize hy : R.getD i default = y at *
        have hnq := fun W => neq_top x y W
        have HX := Lib.hid hx
        have HY := Lib.hid hy
        clear hx hy A0 B0 hA hB
        go_upto_region 6 with fail
        by_cases he : x = y
        · have HAG2 := Lib.hid (agree_succ HAG.out default hiL hiR (by rw [HX.out, HY.out]; exact he))
          rw [decide_eq_true he] at hnq
          clear he
          go_region
          all_goals
            go_wp2_with fail
            go_roundw
            case rel => exact ⟨i + 1, by omega, by go_num, HAG2.out, m + 1, rfl⟩
            case measure => simp [intOf]; omega
        · have HF : Hid (q = false) := Lib.hid (by rw [← HQ.out]; exact decide_eq_false (agree_not (i := i) default (by rw [HX.out, HY.out]; exact he)))
          rw [decide_eq_false he] at hnq
          clear he
          go_region
          all_goals
            go_wp2_with fail
            go_ret
            exact ⟨by rw [HF.out]; rfl, m + 1, rfl⟩
      · have hie : i = n := by omega
        have HT : Hid (q = true) := Lib.hid (by
          rw [← HQ.out]
          exact decide_eq_true (agree_all (by rw [HLN.out, HRN.out]) (by rw [HLN.out, ← hie]; exact HAG.out)))
        go_wp2_with fail
        go_ret
        exact ⟨by rw [HT.out]; rfl, m, rfl⟩
  · have hlb : ((L.length : Int) != (R.length : Int)) = true := by simpa using fun e => hlen (Int.ofNat.inj e)
    have HF := Lib.hid (decide_eq_false (show ¬ L = R from fun e => hlen (by rw [e])))
    clear hra hrb hlen
    generalize decide (L = R) = q at *
    generalize L.length = n at *
    generalize R.length = n' at *
    go_enter Tryd.func47, Tryd.ntmps47
    go_wp2_with fail
    go_ret
    exact ⟨by rw [HF.out]; rfl, 0, rfl⟩

set_option maxRecDepth 100000 in
set_option maxHeartbeats 4000000 in
theorem eqInts_walk (va vb : Value) (L R : List Int) (w : World) (ha : RowAt w va L.length (ncells L)) (hb : RowAt w vb R.length (ncells R)) (hl : L.length ≤ 4000000) (hr : R.length ≤ 4000000) :
    Calls Tryd.prog 48 #[va, vb] w fun e w' => e = .returned (.bool (decide (L = R))) ∧ ∃ n, w' = w.drewN n := by
  obtain ⟨pa, ca, rfl, hca, hra⟩ := ha
  obtain ⟨pb, cb, rfl, hcb, hrb⟩ := hb
  by_cases hlen : L.length = R.length
  · have hlb : ((L.length : Int) != (R.length : Int)) = false := by rw [hlen]; simp
    have HL := Lib.hid hlen
    have HRA := Lib.hid hra
    have HRB := Lib.hid hrb
    generalize hln : L.length = n at *
    have HLN := Lib.hid hln
    rw [← hlen] at hlb ⊢
    have HRN : Hid (R.length = n) := Lib.hid hlen.symm
    clear hra hrb hlen hln hr hcb
    generalize hq : decide (L = R) = q at *
    have HQ := Lib.hid hq
    clear hq
    go_enter Tryd.func48, Tryd.ntmps48
    go_wp2_with fail
    go_loopw [13] (fun iv wr => ∃ i : Nat, i ≤ n ∧ iv = .int .i64 i ∧ Agree L R i ∧ ∃ m, wr = w.drewN m) (fun iv _ => n - (intOf iv).toNat)
    case atStart => exact ⟨0, Nat.zero_le _, rfl, fun j hj => by omega, 0, rfl⟩
    case round =>
      obtain ⟨i, hi, rfl, hag, m, rfl⟩ := hrel
      have HAG := Lib.hid hag
      clear hag
      by_cases hin : i < n
      · have hiL : i < L.length := by rw [HLN.out]; exact hin
        have hiR : i < R.length := by rw [HRN.out]; exact hin
        obtain ⟨ga, oa, rfl, hA⟩ := HRA.out.resolve_left (by intro e; have := congrArg List.length e; simp [ncells] at this; rw [this] at hiL; simp at hiL)
        obtain ⟨gb, ob, rfl, hB⟩ := HRB.out.resolve_left (by intro e; have := congrArg List.length e; simp [ncells] at this; rw [this] at hiR; simp at hiR)
        have a0 : w.cell? ⟨ga, oa + i, none⟩ = some (.int .i64 (L.getD i 0)) := by
          have h := hA i (by simp [ncells]; exact hiL)
          simp only [ncells, List.getElem?_map, List.getElem?_eq_getElem hiL] at h
          simp only [List.getD, List.getElem?_eq_getElem hiL]
          exact h
        have b0 : w.cell? ⟨gb, ob + i, none⟩ = some (.int .i64 (R.getD i 0)) := by
          have h := hB i (by simp [ncells]; exact hiR)
          simp only [ncells, List.getElem?_map, List.getElem?_eq_getElem hiR] at h
          simp only [List.getD, List.getElem?_eq_getElem hiR]
          exact h
        generalize hx : L.getD i 0 = x at *
        generalize hy : R.getD i 0 = y at *
        have HX := Lib.hid hx
        have HY := Lib.hid hy
        clear hx hy hA hB
        go_upto_region 6 with fail
        by_cases he : x = y
        · have HAG2 := Lib.hid (agree_succ HAG.out (0 : Int) hiL hiR (by rw [HX.out, HY.out]; exact he))
          have hne : (x != y) = false := by simpa using he
          clear he
          go_region
          all_goals
            go_wp2_with fail
            go_roundw
            case rel => exact ⟨i + 1, by omega, by go_num, HAG2.out, m + 1, rfl⟩
            case measure => simp [intOf]; omega
        · have HF : Hid (q = false) := Lib.hid (by rw [← HQ.out]; exact decide_eq_false (agree_not (i := i) (0 : Int) (by rw [HX.out, HY.out]; exact he)))
          have hne : (x != y) = true := by simpa using he
          clear he
          go_region
          all_goals
            go_wp2_with fail
            go_ret
            exact ⟨by rw [HF.out]; rfl, m + 1, rfl⟩
      · have hie : i = n := by omega
        have HT : Hid (q = true) := Lib.hid (by
          rw [← HQ.out]
          exact decide_eq_true (agree_all (by rw [HLN.out, HRN.out]) (by rw [HLN.out, ← hie]; exact HAG.out)))
        go_wp2_with fail
        go_ret
        exact ⟨by rw [HT.out]; rfl, m, rfl⟩
  · have hlb : ((L.length : Int) != (R.length : Int)) = true := by simpa using fun e => hlen (Int.ofNat.inj e)
    have HF := Lib.hid (decide_eq_false (show ¬ L = R from fun e => hlen (by rw [e])))
    clear hra hrb hlen
    generalize decide (L = R) = q at *
    generalize L.length = n at *
    generalize R.length = n' at *
    go_enter Tryd.func48, Tryd.ntmps48
    go_wp2_with fail
    go_ret
    exact ⟨by rw [HF.out]; rfl, 0, rfl⟩

set_option maxRecDepth 100000 in
set_option maxHeartbeats 4000000 in
theorem eqOps_walk (va vb : Value) (L R : List Opn) (w : World) (ha : RowAt w va L.length (ocells L)) (hb : RowAt w vb R.length (ocells R)) (hl : L.length ≤ 4000000) (hr : R.length ≤ 4000000) :
    Calls Tryd.prog 49 #[va, vb] w fun e w' => e = .returned (.bool (decide (L = R))) ∧ ∃ n, w' = w.drewN n := by
  obtain ⟨pa, ca, rfl, hca, hra⟩ := ha
  obtain ⟨pb, cb, rfl, hcb, hrb⟩ := hb
  by_cases hlen : L.length = R.length
  · have hlb : ((L.length : Int) != (R.length : Int)) = false := by rw [hlen]; simp
    have HL := Lib.hid hlen
    have HRA := Lib.hid hra
    have HRB := Lib.hid hrb
    generalize hln : L.length = n at *
    have HLN := Lib.hid hln
    rw [← hlen] at hlb ⊢
    have HRN : Hid (R.length = n) := Lib.hid hlen.symm
    clear hra hrb hlen hln hr hcb
    generalize hq : decide (L = R) = q at *
    have HQ := Lib.hid hq
    clear hq
    go_enter Tryd.func49, Tryd.ntmps49
    go_wp2_with fail
    go_loopw [13] (fun iv wr => ∃ i : Nat, i ≤ n ∧ iv = .int .i64 i ∧ Agree L R i ∧ ∃ m, wr = w.drewN m) (fun iv _ => n - (intOf iv).toNat)
    case atStart => exact ⟨0, Nat.zero_le _, rfl, fun j hj => by omega, 0, rfl⟩
    case round =>
      obtain ⟨i, hi, rfl, hag, m, rfl⟩ := hrel
      have HAG := Lib.hid hag
      clear hag
      by_cases hin : i < n
      · have hiL : i < L.length := by rw [HLN.out]; exact hin
        have hiR : i < R.length := by rw [HRN.out]; exact hin
        obtain ⟨ga, oa, rfl, hA⟩ := HRA.out.resolve_left (by intro e; have := congrArg List.length e; rw [ocells_length] at this; simp at this; omega)
        obtain ⟨gb, ob, rfl, hB⟩ := HRB.out.resolve_left (by intro e; have := congrArg List.length e; rw [ocells_length] at this; simp at this; omega)
        have A0 : ∀ j, j < 4 → w.cell? ⟨ga, oa + (i * 4 + j), none⟩ = (ocell (L.getD i default))[j]? := fun j hj => by
          have h := hA (i * 4 + j) (by rw [ocells_length]; omega)
          rw [ocells_get _ _ _ hiL hj] at h
          exact h
        have B0 : ∀ j, j < 4 → w.cell? ⟨gb, ob + (i * 4 + j), none⟩ = (ocell (R.getD i default))[j]? := fun j hj => by
          have h := hB (i * 4 + j) (by rw [ocells_length]; omega)
          rw [ocells_get _ _ _ hiR hj] at h
          exact h
        have a0 : w.cell? ⟨ga, oa + i * 4, none⟩ = some (.int .i64 (L.getD i default).k) := by have h := A0 0 (by omega); rw [← Nat.add_assoc] at h; exact h
        have b0 : w.cell? ⟨gb, ob + i * 4, none⟩ = some (.int .i64 (R.getD i default).k) := by have h := B0 0 (by omega); rw [← Nat.add_assoc] at h; exact h
        have a1 : w.cell? ⟨ga, oa + i * 4 + 1, none⟩ = some (.int .i64 (L.getD i default).a) := by have h := A0 1 (by omega); rw [← Nat.add_assoc] at h; exact h
        have b1 : w.cell? ⟨gb, ob + i * 4 + 1, none⟩ = some (.int .i64 (R.getD i default).a) := by have h := B0 1 (by omega); rw [← Nat.add_assoc] at h; exact h
        have a2 : w.cell? ⟨ga, oa + i * 4 + 2, none⟩ = some (.int .i64 (L.getD i default).b) := by have h := A0 2 (by omega); rw [← Nat.add_assoc] at h; exact h
        have b2 : w.cell? ⟨gb, ob + i * 4 + 2, none⟩ = some (.int .i64 (R.getD i default).b) := by have h := B0 2 (by omega); rw [← Nat.add_assoc] at h; exact h
        have a3 : w.cell? ⟨ga, oa + i * 4 + 3, none⟩ = some (.int .i64 (L.getD i default).c) := by have h := A0 3 (by omega); rw [← Nat.add_assoc] at h; exact h
        have b3 : w.cell? ⟨gb, ob + i * 4 + 3, none⟩ = some (.int .i64 (R.getD i default).c) := by have h := B0 3 (by omega); rw [← Nat.add_assoc] at h; exact h
        generalize hx : L.getD i default = x at *
        generalize hy : R.getD i default = y at *
        have hnq := fun W => neq_opn x y W
        have HX := Lib.hid hx
        have HY := Lib.hid hy
        clear hx hy A0 B0 hA hB
        go_upto_region 6 with fail
        by_cases he : x = y
        · have HAG2 := Lib.hid (agree_succ HAG.out default hiL hiR (by rw [HX.out, HY.out]; exact he))
          rw [decide_eq_true he] at hnq
          clear he
          go_region
          all_goals
            go_wp2_with fail
            go_roundw
            case rel => exact ⟨i + 1, by omega, by go_num, HAG2.out, m + 1, rfl⟩
            case measure => simp [intOf]; omega
        · have HF : Hid (q = false) := Lib.hid (by rw [← HQ.out]; exact decide_eq_false (agree_not (i := i) default (by rw [HX.out, HY.out]; exact he)))
          rw [decide_eq_false he] at hnq
          clear he
          go_region
          all_goals
            go_wp2_with fail
            go_ret
            exact ⟨by rw [HF.out]; rfl, m + 1, rfl⟩
      · have hie : i = n := by omega
        have HT : Hid (q = true) := Lib.hid (by
          rw [← HQ.out]
          exact decide_eq_true (agree_all (by rw [HLN.out, HRN.out]) (by rw [HLN.out, ← hie]; exact HAG.out)))
        go_wp2_with fail
        go_ret
        exact ⟨by rw [HT.out]; rfl, m, rfl⟩
  · have hlb : ((L.length : Int) != (R.length : Int)) = true := by simpa using fun e => hlen (Int.ofNat.inj e)
    have HF := Lib.hid (decide_eq_false (show ¬ L = R from fun e => hlen (by rw [e])))
    clear hra hrb hlen
    generalize decide (L = R) = q at *
    generalize L.length = n at *
    generalize R.length = n' at *
    go_enter Tryd.func49, Tryd.ntmps49
    go_wp2_with fail
    go_ret
    exact ⟨by rw [HF.out]; rfl, 0, rfl⟩

set_option maxRecDepth 100000 in
set_option maxHeartbeats 4000000 in
theorem sameNums_walk (va vb : Value) (L R : List Int) (w : World) (ha : RowAt w va L.length (ncells L)) (hb : RowAt w vb R.length (ncells R)) (hl : L.length ≤ 4000000) (hr : R.length ≤ 4000000) :
    Calls Tryd.prog 21 #[va, vb] w fun e w' => e = .returned (.bool (decide (L = R))) ∧ ∃ n, w' = w.drewN n := by
  obtain ⟨pa, ca, rfl, hca, hra⟩ := ha
  obtain ⟨pb, cb, rfl, hcb, hrb⟩ := hb
  by_cases hlen : L.length = R.length
  · have hlb : ((L.length : Int) != (R.length : Int)) = false := by rw [hlen]; simp
    have HL := Lib.hid hlen
    have HRA := Lib.hid hra
    have HRB := Lib.hid hrb
    generalize hln : L.length = n at *
    have HLN := Lib.hid hln
    rw [← hlen] at hlb ⊢
    have HRN : Hid (R.length = n) := Lib.hid hlen.symm
    clear hra hrb hlen hln hr hcb
    generalize hq : decide (L = R) = q at *
    have HQ := Lib.hid hq
    clear hq
    go_enter Tryd.func21, Tryd.ntmps21
    go_wp2_with fail
    go_loopw [13] (fun iv wr => ∃ i : Nat, i ≤ n ∧ iv = .int .i64 i ∧ Agree L R i ∧ ∃ m, wr = w.drewN m) (fun iv _ => n - (intOf iv).toNat)
    case atStart => exact ⟨0, Nat.zero_le _, rfl, fun j hj => by omega, 0, rfl⟩
    case round =>
      obtain ⟨i, hi, rfl, hag, m, rfl⟩ := hrel
      have HAG := Lib.hid hag
      clear hag
      by_cases hin : i < n
      · have hiL : i < L.length := by rw [HLN.out]; exact hin
        have hiR : i < R.length := by rw [HRN.out]; exact hin
        obtain ⟨ga, oa, rfl, hA⟩ := HRA.out.resolve_left (by intro e; have := congrArg List.length e; simp [ncells] at this; rw [this] at hiL; simp at hiL)
        obtain ⟨gb, ob, rfl, hB⟩ := HRB.out.resolve_left (by intro e; have := congrArg List.length e; simp [ncells] at this; rw [this] at hiR; simp at hiR)
        have a0 : w.cell? ⟨ga, oa + i, none⟩ = some (.int .i64 (L.getD i 0)) := by
          have h := hA i (by simp [ncells]; exact hiL)
          simp only [ncells, List.getElem?_map, List.getElem?_eq_getElem hiL] at h
          simp only [List.getD, List.getElem?_eq_getElem hiL]
          exact h
        have b0 : w.cell? ⟨gb, ob + i, none⟩ = some (.int .i64 (R.getD i 0)) := by
          have h := hB i (by simp [ncells]; exact hiR)
          simp only [ncells, List.getElem?_map, List.getElem?_eq_getElem hiR] at h
          simp only [List.getD, List.getElem?_eq_getElem hiR]
          exact h
        generalize hx : L.getD i 0 = x at *
        generalize hy : R.getD i 0 = y at *
        have HX := Lib.hid hx
        have HY := Lib.hid hy
        clear hx hy hA hB
        go_upto_region 6 with fail
        by_cases he : x = y
        · have HAG2 := Lib.hid (agree_succ HAG.out (0 : Int) hiL hiR (by rw [HX.out, HY.out]; exact he))
          have hne : (x != y) = false := by simpa using he
          clear he
          go_region
          all_goals
            go_wp2_with fail
            go_roundw
            case rel => exact ⟨i + 1, by omega, by go_num, HAG2.out, m + 1, rfl⟩
            case measure => simp [intOf]; omega
        · have HF : Hid (q = false) := Lib.hid (by rw [← HQ.out]; exact decide_eq_false (agree_not (i := i) (0 : Int) (by rw [HX.out, HY.out]; exact he)))
          have hne : (x != y) = true := by simpa using he
          clear he
          go_region
          all_goals
            go_wp2_with fail
            go_ret
            exact ⟨by rw [HF.out]; rfl, m + 1, rfl⟩
      · have hie : i = n := by omega
        have HT : Hid (q = true) := Lib.hid (by
          rw [← HQ.out]
          exact decide_eq_true (agree_all (by rw [HLN.out, HRN.out]) (by rw [HLN.out, ← hie]; exact HAG.out)))
        go_wp2_with fail
        go_ret
        exact ⟨by rw [HT.out]; rfl, m, rfl⟩
  · have hlb : ((L.length : Int) != (R.length : Int)) = true := by simpa using fun e => hlen (Int.ofNat.inj e)
    have HF := Lib.hid (decide_eq_false (show ¬ L = R from fun e => hlen (by rw [e])))
    clear hra hrb hlen
    generalize decide (L = R) = q at *
    generalize L.length = n at *
    generalize R.length = n' at *
    go_enter Tryd.func21, Tryd.ntmps21
    go_wp2_with fail
    go_ret
    exact ⟨by rw [HF.out]; rfl, 0, rfl⟩

set_option maxRecDepth 100000 in
set_option maxHeartbeats 4000000 in
theorem sameOps_walk (va vb : Value) (L R : List Opn) (w : World) (ha : RowAt w va L.length (ocells L)) (hb : RowAt w vb R.length (ocells R)) (hl : L.length ≤ 4000000) (hr : R.length ≤ 4000000) :
    Calls Tryd.prog 25 #[va, vb] w fun e w' => e = .returned (.bool (decide (L = R))) ∧ ∃ n, w' = w.drewN n := by
  obtain ⟨pa, ca, rfl, hca, hra⟩ := ha
  obtain ⟨pb, cb, rfl, hcb, hrb⟩ := hb
  by_cases hlen : L.length = R.length
  · have hlb : ((L.length : Int) != (R.length : Int)) = false := by rw [hlen]; simp
    have HL := Lib.hid hlen
    have HRA := Lib.hid hra
    have HRB := Lib.hid hrb
    generalize hln : L.length = n at *
    have HLN := Lib.hid hln
    rw [← hlen] at hlb ⊢
    have HRN : Hid (R.length = n) := Lib.hid hlen.symm
    clear hra hrb hlen hln hr hcb
    generalize hq : decide (L = R) = q at *
    have HQ := Lib.hid hq
    clear hq
    go_enter Tryd.func25, Tryd.ntmps25
    go_wp2_with fail
    go_loopw [13] (fun iv wr => ∃ i : Nat, i ≤ n ∧ iv = .int .i64 i ∧ Agree L R i ∧ ∃ m, wr = w.drewN m) (fun iv _ => n - (intOf iv).toNat)
    case atStart => exact ⟨0, Nat.zero_le _, rfl, fun j hj => by omega, 0, rfl⟩
    case round =>
      obtain ⟨i, hi, rfl, hag, m, rfl⟩ := hrel
      have HAG := Lib.hid hag
      clear hag
      by_cases hin : i < n
      · have hiL : i < L.length := by rw [HLN.out]; exact hin
        have hiR : i < R.length := by rw [HRN.out]; exact hin
        obtain ⟨ga, oa, rfl, hA⟩ := HRA.out.resolve_left (by intro e; have := congrArg List.length e; rw [ocells_length] at this; simp at this; omega)
        obtain ⟨gb, ob, rfl, hB⟩ := HRB.out.resolve_left (by intro e; have := congrArg List.length e; rw [ocells_length] at this; simp at this; omega)
        have A0 : ∀ j, j < 4 → w.cell? ⟨ga, oa + (i * 4 + j), none⟩ = (ocell (L.getD i default))[j]? := fun j hj => by
          have h := hA (i * 4 + j) (by rw [ocells_length]; omega)
          rw [ocells_get _ _ _ hiL hj] at h
          exact h
        have B0 : ∀ j, j < 4 → w.cell? ⟨gb, ob + (i * 4 + j), none⟩ = (ocell (R.getD i default))[j]? := fun j hj => by
          have h := hB (i * 4 + j) (by rw [ocells_length]; omega)
          rw [ocells_get _ _ _ hiR hj] at h
          exact h
        have a0 : w.cell? ⟨ga, oa + i * 4, none⟩ = some (.int .i64 (L.getD i default).k) := by have h := A0 0 (by omega); rw [← Nat.add_assoc] at h; exact h
        have b0 : w.cell? ⟨gb, ob + i * 4, none⟩ = some (.int .i64 (R.getD i default).k) := by have h := B0 0 (by omega); rw [← Nat.add_assoc] at h; exact h
        have a1 : w.cell? ⟨ga, oa + i * 4 + 1, none⟩ = some (.int .i64 (L.getD i default).a) := by have h := A0 1 (by omega); rw [← Nat.add_assoc] at h; exact h
        have b1 : w.cell? ⟨gb, ob + i * 4 + 1, none⟩ = some (.int .i64 (R.getD i default).a) := by have h := B0 1 (by omega); rw [← Nat.add_assoc] at h; exact h
        have a2 : w.cell? ⟨ga, oa + i * 4 + 2, none⟩ = some (.int .i64 (L.getD i default).b) := by have h := A0 2 (by omega); rw [← Nat.add_assoc] at h; exact h
        have b2 : w.cell? ⟨gb, ob + i * 4 + 2, none⟩ = some (.int .i64 (R.getD i default).b) := by have h := B0 2 (by omega); rw [← Nat.add_assoc] at h; exact h
        have a3 : w.cell? ⟨ga, oa + i * 4 + 3, none⟩ = some (.int .i64 (L.getD i default).c) := by have h := A0 3 (by omega); rw [← Nat.add_assoc] at h; exact h
        have b3 : w.cell? ⟨gb, ob + i * 4 + 3, none⟩ = some (.int .i64 (R.getD i default).c) := by have h := B0 3 (by omega); rw [← Nat.add_assoc] at h; exact h
        generalize hx : L.getD i default = x at *
        generalize hy : R.getD i default = y at *
        have hnq := fun W => neq_opn x y W
        have HX := Lib.hid hx
        have HY := Lib.hid hy
        clear hx hy A0 B0 hA hB
        go_upto_region 6 with fail
        by_cases he : x = y
        · have HAG2 := Lib.hid (agree_succ HAG.out default hiL hiR (by rw [HX.out, HY.out]; exact he))
          rw [decide_eq_true he] at hnq
          clear he
          go_region
          all_goals
            go_wp2_with fail
            go_roundw
            case rel => exact ⟨i + 1, by omega, by go_num, HAG2.out, m + 1, rfl⟩
            case measure => simp [intOf]; omega
        · have HF : Hid (q = false) := Lib.hid (by rw [← HQ.out]; exact decide_eq_false (agree_not (i := i) default (by rw [HX.out, HY.out]; exact he)))
          rw [decide_eq_false he] at hnq
          clear he
          go_region
          all_goals
            go_wp2_with fail
            go_ret
            exact ⟨by rw [HF.out]; rfl, m + 1, rfl⟩
      · have hie : i = n := by omega
        have HT : Hid (q = true) := Lib.hid (by
          rw [← HQ.out]
          exact decide_eq_true (agree_all (by rw [HLN.out, HRN.out]) (by rw [HLN.out, ← hie]; exact HAG.out)))
        go_wp2_with fail
        go_ret
        exact ⟨by rw [HT.out]; rfl, m, rfl⟩
  · have hlb : ((L.length : Int) != (R.length : Int)) = true := by simpa using fun e => hlen (Int.ofNat.inj e)
    have HF := Lib.hid (decide_eq_false (show ¬ L = R from fun e => hlen (by rw [e])))
    clear hra hrb hlen
    generalize decide (L = R) = q at *
    generalize L.length = n at *
    generalize R.length = n' at *
    go_enter Tryd.func25, Tryd.ntmps25
    go_wp2_with fail
    go_ret
    exact ⟨by rw [HF.out]; rfl, 0, rfl⟩
end Go.Proofs.YtdmhlhoimaeacaaDoor

/-
  The program's Same (f26).
-/
namespace Go.Proofs.YtdmhlhoimaeacaaDoor
open Go.RowKit
set_option linter.unusedVariables false

theorem scr_ne {S R : Scr} (h : S.tops ≠ R.tops ∨ S.thrs ≠ R.thrs ∨ S.sch ≠ R.sch ∨ S.most ≠ R.most) : S ≠ R := by
  intro e
  subst e
  rcases h with h | h | h | h <;> exact h rfl
theorem thr_ext {t u : Thr} (h1 : t.name = u.name) (h2 : t.ops = u.ops) : t = u := by
  cases t; cases u; simp_all
theorem hcell_name {w : World} {g o : Nat} {L : List Thr} {V : Nat → Value} (h : ∀ j, j < (hcells L V).length → w.cell? ⟨g, o + j, none⟩ = (hcells L V)[j]?) {i : Nat} (hi : i < L.length) :
    w.cell? ⟨g, o + i * 2, none⟩ = some (.string ⟨(L.getD i default).name.toArray⟩) ∧ w.cell? ⟨g, o + i * 2 + 1, none⟩ = some (V i) := by
  have hl := hcells_length L V
  have h0 := h (i * 2 + 0) (by omega)
  have h1 := h (i * 2 + 1) (by omega)
  rw [hcells_get L V i 0 hi (by omega)] at h0
  rw [hcells_get L V i 1 hi (by omega)] at h1
  rw [← Nat.add_assoc] at h0 h1
  exact ⟨h0, h1⟩

set_option maxRecDepth 100000 in
set_option maxHeartbeats 8000000 in
theorem sameS_walk (ta ha sa tb hb sb : Value) (VA VB : Nat → Value) (S R : Scr) (w : World) (hA : ScrAt w ta ha sa VA S) (hB : ScrAt w tb hb sb VB R) (zA : SmallS S) (zB : SmallS R) :
    Calls Tryd.prog 26 #[.agg #[ta, ha, sa, .int .i64 S.most], .agg #[tb, hb, sb, .int .i64 R.most]] w fun e w' => e = .returned (.bool (decide (S = R))) ∧ Below w.heap.size w w' := by
  have hb2 : Below w.heap.size w ((w.alloc (.cells #[ta, ha, sa, .int .i64 S.most] 27)).alloc (.cells #[tb, hb, sb, .int .i64 R.most] 27)) := ((Below.refl _ _).alloc (Nat.le_refl _) _).alloc (by simp) _
  have hs1 : (w.alloc (.cells #[ta, ha, sa, .int .i64 S.most] 27)).heap.size = w.heap.size + 1 := by simp
  have HA := Lib.hid (hA.below hb2)
  have HB := Lib.hid (hB.below hb2)
  have HB2 := Lib.hid hb2
  have HXA : Hid (((w.alloc (.cells #[ta, ha, sa, .int .i64 S.most] 27)).alloc (.cells #[tb, hb, sb, .int .i64 R.most] 27)).heap[w.heap.size]? = some (.cells #[ta, ha, sa, .int .i64 S.most] 27 (0, 0))) := Lib.hid ((Below.heap_alloc _ _ _ (by omega)).trans (heap_alloc_new w _))
  have HXB : Hid (((w.alloc (.cells #[ta, ha, sa, .int .i64 S.most] 27)).alloc (.cells #[tb, hb, sb, .int .i64 R.most] 27)).heap[w.heap.size + 1]? = some (.cells #[tb, hb, sb, .int .i64 R.most] 27 (0, 0))) := Lib.hid (by rw [← hs1]; exact heap_alloc_new _ _)
  have HZA := Lib.hid zA
  have HZB := Lib.hid zB
  obtain ⟨pta, cta, rfl, _, _⟩ := hA.tops
  obtain ⟨pha, cha, rfl, _, _⟩ := hA.thrs
  obtain ⟨psa, csa, rfl, _, _⟩ := hA.sch
  obtain ⟨ptb, ctb, rfl, _, _⟩ := hB.tops
  obtain ⟨phb, chb, rfl, hch, _⟩ := hB.thrs
  obtain ⟨psb, csb, rfl, _, _⟩ := hB.sch
  have hsz : w.heap.size ≤ ((w.alloc (.cells #[.slice pta S.tops.length cta, .slice pha S.thrs.length cha, .slice psa S.sch.length csa, .int .i64 S.most] 27)).alloc (.cells #[.slice ptb R.tops.length ctb, .slice phb R.thrs.length chb, .slice psb R.sch.length csb, .int .i64 R.most] 27)).heap.size := by simp; omega
  have hla : S.thrs.length ≤ 4000000 := zA.thrs
  have hlb : R.thrs.length ≤ 4000000 := zB.thrs
  clear hA hB zA zB hb2 hs1 hch
  generalize hq : decide (S = R) = q at *
  have HQ := Lib.hid hq
  clear hq
  go_enter Tryd.func26, Tryd.ntmps26
  go_upto_region 1 with fail
  generalize (w.alloc (.cells #[.slice pta S.tops.length cta, .slice pha S.thrs.length cha, .slice psa S.sch.length csa, .int .i64 S.most] 27)).alloc (.cells #[.slice ptb R.tops.length ctb, .slice phb R.thrs.length chb, .slice psb R.sch.length csb, .int .i64 R.most] 27) = w0 at *
  generalize hrb : w.heap.size = rb at *
  have HRBE := Lib.hid hrb
  clear hrb
  have a0 := (cell_of HXA.out 0).trans rfl
  have a1 := (cell_of HXA.out 1).trans rfl
  have a2 := (cell_of HXA.out 2).trans rfl
  have a3 := (cell_of HXA.out 3).trans rfl
  have b0 := (cell_of HXB.out 0).trans rfl
  have b1 := (cell_of HXB.out 1).trans rfl
  have b2 := (cell_of HXB.out 2).trans rfl
  have b3 := (cell_of HXB.out 3).trans rfl
  by_cases h1 : S.most = R.most
  · have h1b : (S.most != R.most) = false := by simpa using h1
    by_cases h2 : S.thrs.length = R.thrs.length
    · have h2b : ((S.thrs.length : Int) != (R.thrs.length : Int)) = false := by rw [h2]; simp
      have H1 := Lib.hid h1
      have H2 := Lib.hid h2
      clear h1 h2
      go_wp2_with fail
      refine (eqTops_walk _ _ S.tops R.tops w0 HA.out.tops HB.out.tops HZA.out.tops HZB.out.tops).mono ?_
      rintro e w1 ⟨rfl, n1, rfl⟩
      by_cases h3 : S.tops = R.tops
      · have H3 := Lib.hid h3
        rw [decide_eq_true h3]
        clear h3
        go_wp2_with fail
        refine (eqInts_walk _ _ S.sch R.sch _ (HA.out.below (below_drewN (Below.refl _ _) n1)).sch (HB.out.below (below_drewN (Below.refl _ _) n1)).sch HZA.out.sch HZB.out.sch).mono ?_
        rintro e w2 ⟨rfl, n2, rfl⟩
        by_cases h4 : S.sch = R.sch
        · have H4 := Lib.hid h4
          rw [decide_eq_true h4]
          clear h4
          have HA3 := Lib.hid (HA.out.below (below_drewN (below_drewN (Below.refl w0.heap.size w0) n1) n2))
          have HB3 := Lib.hid (HB.out.below (below_drewN (below_drewN (Below.refl w0.heap.size w0) n1) n2))
          have HXA3 : Hid (((w0.drewN n1).drewN n2).heap[rb]? = _) := Lib.hid HXA.out
          have HXB3 : Hid (((w0.drewN n1).drewN n2).heap[rb + 1]? = _) := Lib.hid HXB.out
          have HL3 : Hid (Below rb w ((w0.drewN n1).drewN n2)) := Lib.hid (below_drewN (below_drewN HB2.out _) _)
          generalize (w0.drewN n1).drewN n2 = w3 at *
          clear HA HB HXA HXB HB2 a0 a1 a2 a3 b0 b1 b2 b3 hsz
          have a1 := (cell_of HXA3.out 1).trans rfl
          have b1 := (cell_of HXB3.out 1).trans rfl
          generalize hnn : S.thrs.length = n at *
          have HN1 := Lib.hid hnn
          have HN2 : Hid (R.thrs.length = n) := Lib.hid (by rw [← H2.out])
          rw [HN2.out] at b1 hlb ⊢
          clear hnn hlb
          go_wp2_with fail
          go_loopw [39] (fun iv wr => ∃ i : Nat, i ≤ n ∧ iv = .int .i64 i ∧ Agree S.thrs R.thrs i ∧ ∃ m, wr = w3.drewN m) (fun iv _ => n - (intOf iv).toNat)
          case atStart => exact ⟨0, Nat.zero_le _, rfl, fun j hj => by omega, 0, rfl⟩
          case round =>
            obtain ⟨i, hi, rfl, hag, m, hwr⟩ := hrel
            have HAG := Lib.hid hag
            have hbw : Below w3.heap.size w3 wr := by rw [hwr]; exact below_drewN (Below.refl _ _) m
            have HWR := Lib.hid hwr
            have HL4 : Hid (Below rb w wr) := Lib.hid (by rw [hwr]; exact below_drewN HL3.out m)
            have HA4 := Lib.hid (HA3.out.below hbw)
            have HB4 := Lib.hid (HB3.out.below hbw)
            have e1 : wr.heap[rb]? = _ := (show wr.heap[rb]? = w3.heap[rb]? by rw [hwr]; rfl).trans HXA3.out
            have e2 : wr.heap[rb + 1]? = _ := (show wr.heap[rb + 1]? = w3.heap[rb + 1]? by rw [hwr]; rfl).trans HXB3.out
            have a1 := (cell_of e1 1).trans rfl
            have b1 := (cell_of e2 1).trans rfl
            rw [HN2.out] at b1
            clear hag hwr hbw e1 e2
            by_cases hin : i < n
            · have hiL : i < S.thrs.length := by rw [HN1.out]; exact hin
              have hiR : i < R.thrs.length := by rw [HN2.out]; exact hin
              obtain ⟨q1, c1, e1, _, hA1⟩ := HA4.out.thrs
              obtain ⟨q2, c2, e2, _, hB1⟩ := HB4.out.thrs
              injection e1 with e11 e12 e13
              injection e2 with e21 e22 e23
              subst e11 e21
              obtain ⟨ga, oa, rfl, hA2⟩ := hA1.resolve_left (by intro e; have := congrArg List.length e; rw [hcells_length] at this; simp at this; omega)
              obtain ⟨gb, ob, rfl, hB2⟩ := hB1.resolve_left (by intro e; have := congrArg List.length e; rw [hcells_length] at this; simp at this; omega)
              obtain ⟨na, va⟩ := hcell_name hA2 hiL
              obtain ⟨nb, vb⟩ := hcell_name hB2 hiR
              have hEA := HA4.out.each i hiL
              have hEB := HB4.out.each i hiR
              have hEQ := Lib.hid (fun W h1 h2 => eqOps_walk (VA i) (VB i) (S.thrs.getD i default).ops (R.thrs.getD i default).ops W h1 h2 (HZA.out.ops _ (getD_mem hiL)) (HZB.out.ops _ (getD_mem hiR)))
              have HEA := Lib.hid hEA
              have HEB := Lib.hid hEB
              obtain ⟨pva, cva, eva, _, _⟩ := hEA
              obtain ⟨pvb, cvb, evb, _, _⟩ := hEB
              clear hA1 hB1 hA2 hB2 e12 e13 e22 e23
              rw [eva] at va
              rw [evb] at vb
              have HEQ : Hid (∀ W, Below wr.heap.size wr W → Calls Tryd.prog 49 #[.slice pva (S.thrs.getD i default).ops.length cva, .slice pvb (R.thrs.getD i default).ops.length cvb] W fun e w' => e = .returned (.bool (decide ((S.thrs.getD i default).ops = (R.thrs.getD i default).ops))) ∧ ∃ n, w' = W.drewN n) := Lib.hid (fun W hW => by
                have h := hEQ.out W (HEA.out.below hW) (HEB.out.below hW)
                rw [eva, evb] at h
                exact h)
              clear eva evb hEQ HEA HEB
              have HTX : Hid ((S.thrs.getD i default).name = (R.thrs.getD i default).name → (S.thrs.getD i default).ops = (R.thrs.getD i default).ops → S.thrs.getD i default = R.thrs.getD i default) := Lib.hid (fun h1 h2 => thr_ext h1 h2)
              generalize hti : S.thrs.getD i default = ti at *
              generalize htj : R.thrs.getD i default = tj at *
              have HTI := Lib.hid hti
              have HTJ := Lib.hid htj
              clear hti htj
              obtain ⟨n1', o1⟩ := ti
              obtain ⟨n2', o2⟩ := tj
              simp only at *
              have hi0 : (0 : Int) ≤ (i : Int) := by omega
              have hi1 : (i : Int) < (n : Int) := by omega
              go_upto_region 6 with fail
              by_cases hnm : n1' = n2'
              · have hnb : (n1' != n2') = false := by simpa using hnm
                subst hnm
                by_cases hop : o1 = o2
                · have HE2 := Lib.hid (HTX.out rfl hop)
                  have HOPD : Hid (decide (o1 = o2) = true) := Lib.hid (decide_eq_true hop)
                  rw [HOPD.out] at HEQ
                  have HAG2 := Lib.hid (agree_succ HAG.out default hiL hiR (by rw [HTI.out, HTJ.out]; exact HE2.out))
                  clear hop HE2 HOPD
                  go_quiet ((go_at_call 49; exact Calls.quiet_of (HEQ.out _ (below_drewN (Below.refl _ _) _))))
                  go_wp2_with fail
                  go_roundw
                  case rel => exact ⟨i + 1, by omega, by go_num, HAG2.out, _, by rw [HWR.out]; exact World.drewN_drewN _ _ _⟩
                  case measure => simp [intOf]; omega
                · have HF : Hid (q = false) := Lib.hid (by
                    rw [← HQ.out]
                    refine decide_eq_false (scr_ne (.inr (.inl (agree_not (i := i) default ?_))))
                    rw [HTI.out, HTJ.out]
                    intro e
                    exact hop (Thr.mk.inj e).2)
                  have HOPD : Hid (decide (o1 = o2) = false) := Lib.hid (decide_eq_false hop)
                  rw [HOPD.out] at HEQ
                  clear hop HOPD
                  go_quiet ((go_at_call 49; exact Calls.quiet_of (HEQ.out _ (below_drewN (Below.refl _ _) _))))
                  go_wp2_with fail
                  go_ret
                  exact ⟨by rw [HF.out]; rfl, by rw [HRBE.out]; exact below_drewN HL4.out _⟩
              · have HF : Hid (q = false) := Lib.hid (by
                  rw [← HQ.out]
                  refine decide_eq_false (scr_ne (.inr (.inl (agree_not (i := i) default ?_))))
                  rw [HTI.out, HTJ.out]
                  intro e
                  exact hnm (Thr.mk.inj e).1)
                have hnb : (n1' != n2') = true := by simpa using hnm
                go_quiet ((go_at_call 49; exact Calls.quiet_of (HEQ.out _ (below_drewN (Below.refl _ _) _))))
                go_wp2_with fail
                go_ret
                exact ⟨by rw [HF.out]; rfl, by rw [HRBE.out]; exact below_drewN HL4.out _⟩
            · have hie : i = n := by omega
              have HT : Hid (q = true) := Lib.hid (by
                rw [← HQ.out]
                refine decide_eq_true ?_
                have h2 := agree_all (L := S.thrs) (R := R.thrs) (by rw [HN1.out, HN2.out]) (by rw [HN1.out, ← hie]; exact HAG.out)
                have h1 := H1.out
                have h3 := H3.out
                have h4 := H4.out
                cases S; cases R
                simp_all)
              go_wp2_with fail
              go_ret
              exact ⟨by rw [HT.out]; rfl, by rw [HRBE.out]; exact HL4.out⟩
        · have HN : Hid (¬ S = R) := Lib.hid (scr_ne (.inr (.inr (.inl h4))))
          rw [decide_eq_false h4]
          have HF : Hid (q = false) := Lib.hid (by rw [← HQ.out]; exact decide_eq_false HN.out)
          clear h4
          go_wp2_with fail
          go_ret
          exact ⟨by rw [HF.out]; rfl, by rw [HRBE.out]; exact below_drewN HB2.out _⟩
      · have HN : Hid (¬ S = R) := Lib.hid (scr_ne (.inl h3))
        rw [decide_eq_false h3]
        have HF : Hid (q = false) := Lib.hid (by rw [← HQ.out]; exact decide_eq_false HN.out)
        clear h3
        go_wp2_with fail
        go_ret
        exact ⟨by rw [HF.out]; rfl, by rw [HRBE.out]; exact below_drewN HB2.out _⟩
    · have HN : Hid (¬ S = R) := Lib.hid (scr_ne (.inr (.inl (fun e => h2 (by rw [e])))))
      have h2b : ((S.thrs.length : Int) != (R.thrs.length : Int)) = true := by simpa using fun e => h2 (Int.ofNat.inj e)
      have HF : Hid (q = false) := Lib.hid (by rw [← HQ.out]; exact decide_eq_false HN.out)
      clear h1 h2
      go_wp2_with fail
      go_ret
      exact ⟨by rw [HF.out]; rfl, by rw [HRBE.out]; exact HB2.out⟩
  · have HN : Hid (¬ S = R) := Lib.hid (scr_ne (.inr (.inr (.inr h1))))
    have h1b : (S.most != R.most) = true := by simpa using h1
    have HF : Hid (q = false) := Lib.hid (by rw [← HQ.out]; exact decide_eq_false HN.out)
    clear h1
    go_wp2_with fail
    go_ret
    exact ⟨by rw [HF.out]; rfl, by rw [HRBE.out]; exact HB2.out⟩
end Go.Proofs.YtdmhlhoimaeacaaDoor

/-
  How many of a list are alike, from the first on (f36, f37). (Printed by wip/gen/alike.py.)
-/
namespace Go.Proofs.YtdmhlhoimaeacaaDoor
open Go.RowKit
set_option linter.unusedVariables false

theorem sameN_spec {α : Type} [DecidableEq α] (x : α) : ∀ (m : Nat) (l : List α) (k : Nat), (∀ j, j < k → l[j]? = some x) → k ≤ m → (k = m ∨ l[k]? ≠ some x) → sameN x m l = k
  | 0, l, k, _, hk, _ => by
    have : k = 0 := by omega
    subst this
    rfl
  | m + 1, [], k, h, hk, hs => by
    cases k with
    | zero => rfl
    | succ k => have := h 0 (by omega); simp at this
  | m + 1, y :: r, 0, h, hk, hs => by
    unfold sameN
    rw [if_neg]
    intro e
    subst e
    rcases hs with hs | hs
    · omega
    · exact hs rfl
  | m + 1, y :: r, k + 1, h, hk, hs => by
    have h0 := h 0 (by omega)
    simp only [List.getElem?_cons_zero, Option.some.injEq] at h0
    unfold sameN
    rw [if_pos h0, sameN_spec x m r k (fun j hj => by have := h (j + 1) (by omega); simpa using this) (by omega) (by
      rcases hs with hs | hs
      · left; omega
      · right; simpa using hs)]
theorem alike_spec {α : Type} [DecidableEq α] {L : List α} {n : Nat} (d : α) (h1 : 1 ≤ n) (hn : n ≤ L.length ∨ n = 1) (h6 : n ≤ 65536) (h : ∀ j, j < n → j < L.length → L.getD j d = L.getD 0 d) (hs : L.length ≤ n ∨ n = 65536 ∨ L.getD n d ≠ L.getD 0 d) : alikeF L = n := by
  cases L with
  | nil =>
    show 1 = n
    rcases hn with hn | hn
    · simp at hn; omega
    · exact hn.symm
  | cons x r =>
    have hn' : n ≤ (x :: r).length := by
      rcases hn with hn | hn
      · exact hn
      · simp; omega
    show sameN x 65535 r + 1 = n
    have A : ∀ j, j < n - 1 → r[j]? = some x := fun j hj => by
      have hl : j + 1 < (x :: r).length := by omega
      have h2 := h (j + 1) (by omega) hl
      simp only [List.length_cons] at hl
      have hj2 : j < r.length := by omega
      simp only [List.getD, List.getElem?_cons_succ, List.getElem?_cons_zero, List.getElem?_eq_getElem hj2, Option.getD_some] at h2
      rw [List.getElem?_eq_getElem hj2, h2]
    have B : n - 1 = 65535 ∨ r[n - 1]? ≠ some x := by
      rcases hs with hs | hs | hs
      · right
        simp only [List.length_cons] at hs
        rw [List.getElem?_eq_none (by omega)]
        simp
      · left; omega
      · right
        intro e
        apply hs
        obtain ⟨m, rfl⟩ : ∃ m, n = m + 1 := ⟨n - 1, by omega⟩
        simp only [Nat.add_sub_cancel] at e
        simp only [List.getD, List.getElem?_cons_succ, List.getElem?_cons_zero, e, Option.getD_some]
    rw [sameN_spec x 65535 r (n - 1) A (by omega) B]
    omega


set_option maxRecDepth 100000 in
set_option maxHeartbeats 4000000 in
theorem alikeI_walk (v : Value) (L : List Int) (w : World) (hv : RowAt w v L.length (ncells L)) (hl : L.length ≤ 4000000) :
    Calls Tryd.prog 36 #[v] w fun e w' => e = .returned (.int .i64 (alikeF L)) ∧ ∃ m, w' = w.drewN m := by
  obtain ⟨p, c, rfl, hc, hr⟩ := hv
  have HR := Lib.hid hr
  have HSP := Lib.hid (fun n h1 hn h6 h hs => alike_spec (L := L) (n := n) (0 : Int) h1 hn h6 h hs)
  generalize alikeF L = al at *
  generalize hln : L.length = len at *
  have HLN := Lib.hid hln
  clear hr hln
  go_enter Tryd.func36, Tryd.ntmps36
  go_wp2_with fail
  go_loopw [3] (fun nv wr => ∃ n : Nat, 1 ≤ n ∧ (n ≤ len ∨ n = 1) ∧ n ≤ 65536 ∧ nv = .int .i64 n ∧ (∀ j, j < n → j < len → L.getD j (0 : Int) = L.getD 0 (0 : Int)) ∧ ∃ m, wr = w.drewN m) (fun nv _ => 65536 - (intOf nv).toNat)
  case atStart => exact ⟨1, Nat.le_refl _, .inr rfl, by omega, rfl, (fun j hj _ => by rw [show j = 0 by omega]), 0, rfl⟩
  case round =>
    obtain ⟨n, hn1, hn, hn6, rfl, hall, m, hwr⟩ := hrel
    have HALL := Lib.hid hall
    have HWR := Lib.hid hwr
    have hce : ∀ a, wr.cell? a = w.cell? a := fun a => by rw [hwr]; rfl
    have HCE := Lib.hid hce
    clear hall hwr hce
    by_cases hnl : n < len
    · have g1 : decide ((n : Int) < (len : Int)) = true := decide_eq_true (by omega)
      by_cases h65 : n < 65536
      · have g2 : decide ((n : Int) < 65536) = true := decide_eq_true (by omega)
        have hnL : n < L.length := by rw [HLN.out]; exact hnl
        have h0L : 0 < L.length := by omega
        obtain ⟨g, o, rfl, hC⟩ := HR.out.resolve_left (by intro e; have := congrArg List.length e; simp [ncells] at this; rw [this] at h0L; simp at h0L)
        have A0 : ∀ i, i < L.length → wr.cell? ⟨g, o + i, none⟩ = some (.int .i64 (L.getD i 0)) := fun i hi => by
          have h := hC i (by simp [ncells]; exact hi)
          simp only [ncells, List.getElem?_map, List.getElem?_eq_getElem hi] at h
          rw [HCE.out]
          simp only [List.getD, List.getElem?_eq_getElem hi]
          exact h
        have a0 := A0 n hnL
        have b0 : wr.cell? ⟨g, o, none⟩ = some (.int .i64 (L.getD 0 0)) := A0 0 h0L
        generalize hx : L.getD n 0 = x at *
        generalize hy : L.getD 0 0 = y at *
        have HX := Lib.hid hx
        have HY := Lib.hid hy
        clear hx hy A0 hC
        go_upto_region 2 with fail
        by_cases he : x = y
        · have HAL2 : Hid (∀ j, j < n + 1 → j < len → L.getD j (0 : Int) = y) := Lib.hid (fun j hj hjl => by
            by_cases e : j = n
            · subst e; rw [HX.out]; exact he
            · exact HALL.out j (by omega) hjl)
          have heq : (x == y) = true := by simpa using he
          clear he
          go_quiet (fail)
          go_wp2_with fail
          go_roundw
          case rel => exact ⟨n + 1, by omega, .inl (by omega), by omega, by go_num, HAL2.out, _, by rw [HWR.out]; exact World.drewN_drewN _ _ _⟩
          case measure => simp [intOf]; omega
        · have HF : Hid (al = n) := Lib.hid (HSP.out n hn1 hn hn6 HALL.out (.inr (.inr (by rw [HX.out]; exact he))))
          have heq : (x == y) = false := by simpa using he
          clear he
          go_quiet (fail)
          go_wp2_with fail
          go_ret
          exact ⟨by rw [HF.out]; rfl, _, by rw [HWR.out]; exact World.drewN_drewN _ _ _⟩
      · have g2 : decide ((n : Int) < 65536) = false := decide_eq_false (by omega)
        have HF : Hid (al = n) := Lib.hid (HSP.out n hn1 hn hn6 HALL.out (.inr (.inl (by omega))))
        go_upto_region 2 with fail
        go_quiet (fail)
        go_wp2_with fail
        go_ret
        exact ⟨by rw [HF.out]; rfl, _, by rw [HWR.out]; exact World.drewN_drewN _ _ _⟩
    · have g1 : decide ((n : Int) < (len : Int)) = false := decide_eq_false (by omega)
      have HF : Hid (al = n) := Lib.hid (HSP.out n hn1 hn hn6 HALL.out (.inl (by omega)))
      go_upto_region 2 with fail
      go_quiet (fail)
      go_wp2_with fail
      go_ret
      exact ⟨by rw [HF.out]; rfl, _, by rw [HWR.out]; exact World.drewN_drewN _ _ _⟩

set_option maxRecDepth 100000 in
set_option maxHeartbeats 4000000 in
theorem alikeO_walk (v : Value) (L : List Opn) (w : World) (hv : RowAt w v L.length (ocells L)) (hl : L.length ≤ 4000000) :
    Calls Tryd.prog 37 #[v] w fun e w' => e = .returned (.int .i64 (alikeF L)) ∧ ∃ m, w' = w.drewN m := by
  obtain ⟨p, c, rfl, hc, hr⟩ := hv
  have HR := Lib.hid hr
  have HSP := Lib.hid (fun n h1 hn h6 h hs => alike_spec (L := L) (n := n) (default : Opn) h1 hn h6 h hs)
  generalize alikeF L = al at *
  generalize hln : L.length = len at *
  have HLN := Lib.hid hln
  clear hr hln
  go_enter Tryd.func37, Tryd.ntmps37
  go_wp2_with fail
  go_loopw [3] (fun nv wr => ∃ n : Nat, 1 ≤ n ∧ (n ≤ len ∨ n = 1) ∧ n ≤ 65536 ∧ nv = .int .i64 n ∧ (∀ j, j < n → j < len → L.getD j (default : Opn) = L.getD 0 (default : Opn)) ∧ ∃ m, wr = w.drewN m) (fun nv _ => 65536 - (intOf nv).toNat)
  case atStart => exact ⟨1, Nat.le_refl _, .inr rfl, by omega, rfl, (fun j hj _ => by rw [show j = 0 by omega]), 0, rfl⟩
  case round =>
    obtain ⟨n, hn1, hn, hn6, rfl, hall, m, hwr⟩ := hrel
    have HALL := Lib.hid hall
    have HWR := Lib.hid hwr
    have hce : ∀ a, wr.cell? a = w.cell? a := fun a => by rw [hwr]; rfl
    have HCE := Lib.hid hce
    clear hall hwr hce
    by_cases hnl : n < len
    · have g1 : decide ((n : Int) < (len : Int)) = true := decide_eq_true (by omega)
      by_cases h65 : n < 65536
      · have g2 : decide ((n : Int) < 65536) = true := decide_eq_true (by omega)
        have hnL : n < L.length := by rw [HLN.out]; exact hnl
        have h0L : 0 < L.length := by omega
        obtain ⟨g, o, rfl, hC⟩ := HR.out.resolve_left (by intro e; have := congrArg List.length e; rw [ocells_length] at this; simp at this; omega)
        have A0 : ∀ i, i < L.length → ∀ j, j < 4 → wr.cell? ⟨g, o + i * 4 + j, none⟩ = (ocell (L.getD i default))[j]? := fun i hi j hj => by
          have h := hC (i * 4 + j) (by rw [ocells_length]; omega)
          rw [ocells_get _ _ _ hi hj, ← Nat.add_assoc] at h
          rw [HCE.out]
          exact h
        have a0 : wr.cell? ⟨g, o + n * 4, none⟩ = some (.int .i64 (L.getD n default).k) := A0 n hnL 0 (by omega)
        have b0 : wr.cell? ⟨g, o, none⟩ = some (.int .i64 (L.getD 0 default).k) := by have h := A0 0 h0L 0 (by omega); rw [Nat.zero_mul, Nat.add_zero] at h; exact h
        have a1 : wr.cell? ⟨g, o + n * 4 + 1, none⟩ = some (.int .i64 (L.getD n default).a) := A0 n hnL 1 (by omega)
        have b1 : wr.cell? ⟨g, o + 1, none⟩ = some (.int .i64 (L.getD 0 default).a) := by have h := A0 0 h0L 1 (by omega); rw [Nat.zero_mul, Nat.add_zero] at h; exact h
        have a2 : wr.cell? ⟨g, o + n * 4 + 2, none⟩ = some (.int .i64 (L.getD n default).b) := A0 n hnL 2 (by omega)
        have b2 : wr.cell? ⟨g, o + 2, none⟩ = some (.int .i64 (L.getD 0 default).b) := by have h := A0 0 h0L 2 (by omega); rw [Nat.zero_mul, Nat.add_zero] at h; exact h
        have a3 : wr.cell? ⟨g, o + n * 4 + 3, none⟩ = some (.int .i64 (L.getD n default).c) := A0 n hnL 3 (by omega)
        have b3 : wr.cell? ⟨g, o + 3, none⟩ = some (.int .i64 (L.getD 0 default).c) := by have h := A0 0 h0L 3 (by omega); rw [Nat.zero_mul, Nat.add_zero] at h; exact h
        generalize hx : L.getD n default = x at *
        generalize hy : L.getD 0 default = y at *
        have hq := fun W => eql_opn x y W
        have HX := Lib.hid hx
        have HY := Lib.hid hy
        clear hx hy A0 hC
        go_upto_region 2 with fail
        by_cases he : x = y
        · have HAL2 : Hid (∀ j, j < n + 1 → j < len → L.getD j (default : Opn) = y) := Lib.hid (fun j hj hjl => by
            by_cases e : j = n
            · subst e; rw [HX.out]; exact he
            · exact HALL.out j (by omega) hjl)
          rw [decide_eq_true he] at hq
          clear he
          go_quiet (fail)
          go_wp2_with fail
          go_roundw
          case rel => exact ⟨n + 1, by omega, .inl (by omega), by omega, by go_num, HAL2.out, _, by rw [HWR.out]; exact World.drewN_drewN _ _ _⟩
          case measure => simp [intOf]; omega
        · have HF : Hid (al = n) := Lib.hid (HSP.out n hn1 hn hn6 HALL.out (.inr (.inr (by rw [HX.out]; exact he))))
          rw [decide_eq_false he] at hq
          clear he
          go_quiet (fail)
          go_wp2_with fail
          go_ret
          exact ⟨by rw [HF.out]; rfl, _, by rw [HWR.out]; exact World.drewN_drewN _ _ _⟩
      · have g2 : decide ((n : Int) < 65536) = false := decide_eq_false (by omega)
        have HF : Hid (al = n) := Lib.hid (HSP.out n hn1 hn hn6 HALL.out (.inr (.inl (by omega))))
        go_upto_region 2 with fail
        go_quiet (fail)
        go_wp2_with fail
        go_ret
        exact ⟨by rw [HF.out]; rfl, _, by rw [HWR.out]; exact World.drewN_drewN _ _ _⟩
    · have g1 : decide ((n : Int) < (len : Int)) = false := decide_eq_false (by omega)
      have HF : Hid (al = n) := Lib.hid (HSP.out n hn1 hn hn6 HALL.out (.inl (by omega)))
      go_upto_region 2 with fail
      go_quiet (fail)
      go_wp2_with fail
      go_ret
      exact ⟨by rw [HF.out]; rfl, _, by rw [HWR.out]; exact World.drewN_drewN _ _ _⟩
end Go.Proofs.YtdmhlhoimaeacaaDoor

/-
  The program's tell (f38): an operation's line: plain laws.
-/
namespace Go.Proofs.YtdmhlhoimaeacaaDoor
open Go.RowKit Go.Maps
set_option linter.unusedVariables false

/-! Plain. -/
def In64O (o : Opn) : Prop := In64 o.k ∧ In64 o.a ∧ In64 o.b ∧ In64 o.c
def opN (o : Opn) : Nat → Int
  | 0 => o.a
  | 1 => o.b
  | _ => o.c
/-- Is the i-th number as the form k wants it? -/
def okAt (k : Nat) (o : Opn) (i : Nat) : Bool := if i < (formOf k).bounds.length then decide (lowOf k i ≤ opN o i) && decide (opN o i ≤ highOf k i) else opN o i == 0
/-- The line up to the i-th number. -/
def lineT (k : Nat) (o : Opn) : Nat → Word
  | 0 => (formOf k).word
  | i + 1 => if i < (formOf k).bounds.length then lineT k o i ++ (32 :: Lib.itoa (opN o i)) else lineT k o i
theorem form_kinds {k : Nat} (hk : k < 6) : (formOf k).kind ≠ 4 := by
  rcases (by omega : k = 0 ∨ k = 1 ∨ k = 2 ∨ k = 3 ∨ k = 4 ∨ k = 5) with rfl | rfl | rfl | rfl | rfl | rfl <;> decide
theorem kind_find {o : Opn} {k : Nat} (hk : k < 6) (he : (formOf k).kind = o.k) : formsF.find? (fun f => f.kind = o.k) = some (formOf k) := by
  obtain ⟨q, a, b, c⟩ := o
  simp only at he
  subst he
  rcases (by omega : k = 0 ∨ k = 1 ∨ k = 2 ∨ k = 3 ∨ k = 4 ∨ k = 5) with rfl | rfl | rfl | rfl | rfl | rfl <;> rfl
theorem tell_form {o : Opn} {k : Nat} (hk : k < 6) (he : (formOf k).kind = o.k) : tellF o = if okAt k o 0 && okAt k o 1 && okAt k o 2 then some (lineT k o 3) else none := by
  unfold tellF
  rw [if_neg (by rw [← he]; exact form_kinds hk), kind_find hk he]
  obtain ⟨q, a, b, c⟩ := o
  rcases (by omega : k = 0 ∨ k = 1 ∨ k = 2 ∨ k = 3 ∨ k = 4 ∨ k = 5) with rfl | rfl | rfl | rfl | rfl | rfl <;>
    simp [formOf, formsF, opNums, opRest, fitsF, okAt, lineT, numsT, opN, lowOf, highOf, Bool.and_assoc, and_assoc]
theorem tell_strange {o : Opn} (h4 : o.k ≠ 4) (h : ∀ j, j < 6 → (formOf j).kind ≠ o.k) : tellF o = none := by
  unfold tellF
  rw [if_neg h4]
  have : formsF.find? (fun f => f.kind = o.k) = none := by
    rw [List.find?_eq_none]
    intro f hf
    obtain ⟨j, hj, rfl⟩ := List.getElem_of_mem hf
    have hl : formsF.length = 6 := rfl
    have := h j (by omega)
    unfold formOf at this
    simp only [List.getD, List.getElem?_eq_getElem hj, Option.getD_some] at this
    simpa using this
  rw [this]
  rfl
theorem mk_app (a b : Word) : (ByteArray.mk a.toArray) ++ (ByteArray.mk b.toArray) = ⟨(a ++ b).toArray⟩ := by
  apply ByteArray.ext
  apply Array.toList_inj.1
  simp
theorem mk_lit (a : Array UInt8) : (ByteArray.mk a) = ⟨a.toList.toArray⟩ := by simp
theorem filt_same : ∀ k, k < 4 → filtW k = filtF k
  | 0, _ => rfl
  | 1, _ => rfl
  | 2, _ => rfl
  | 3, _ => rfl
  | n + 4, h => by omega
/-- Two strings joined. -/
theorem add_str (a b : Word) (h : a.length + b.length ≤ 9223372036854775807) (w : World) : (binOp .add 9 (.string ⟨a.toArray⟩) (.string ⟨b.toArray⟩)).run Tryd.prog w = .ok (.string ⟨(a ++ b).toArray⟩) w := by
  rw [← mk_app]
  have h1 : (ByteArray.mk a.toArray).size = a.length := size_mk a
  have h2 : (ByteArray.mk b.toArray).size = b.length := size_mk b
  simp [binOp, run_string_add_sum w _ _ (show (ByteArray.mk a.toArray).size + (ByteArray.mk b.toArray).size ≤ 9223372036854775807 by omega)]
/-- A number's text, by the library. -/
theorem fmt_walk (N : Nat) (n : Int) (w : World) (hE : Env N w) (hn : In64 n) : Calls Tryd.prog 34 #[.int .i64 n, .int .i64 10] w fun e w' => e = .returned (.string ⟨(Lib.itoa n).toArray⟩) ∧ Below w.heap.size w w' := by
  refine (Tryd.strconv_FormatInt_10 n hn.1 hn.2 w (hE.tab w (Below.refl _ _))).mono ?_
  rintro e w' ⟨rfl, k, os, rfl⟩
  exact ⟨rfl, Lib.below_grow w.heap.size w (Nat.le_refl _) k os⟩
theorem itoa_walk (N : Nat) (n : Int) (w : World) (hE : Env N w) (hn : In64 n) : Calls Tryd.prog 35 #[.int .i64 n] w fun e w' => e = .returned (.string ⟨(Lib.itoa n).toArray⟩) ∧ Below w.heap.size w w' := by
  refine (Tryd.strconv_Itoa n hn.1 hn.2 w (hE.tab w (Below.refl _ _))).mono ?_
  rintro e w' ⟨rfl, k, os, rfl⟩
  exact ⟨rfl, Lib.below_grow w.heap.size w (Nat.le_refl _) k os⟩
/-- What is answered of an operation. -/
def TellD (o : Opn) (w : World) (e : Ending) (w' : World) : Prop := e = .returned (.tuple #[.string ⟨(tellD o).toArray⟩, .bool (saysF o)]) ∧ Below w.heap.size w w'
theorem tell_end {o : Opn} {w w' : World} {t : Option Word} (ht : tellF o = t) (hb : Below w.heap.size w w') : TellD o w (.returned (.tuple #[.string ⟨(t.getD []).toArray⟩, .bool t.isSome])) w' := by
  subst ht
  exact ⟨rfl, hb⟩

end Go.Proofs.YtdmhlhoimaeacaaDoor

/-
  The program's tell (f38): a subscription's line.
-/
namespace Go.Proofs.YtdmhlhoimaeacaaDoor
open Go.RowKit Go.Maps
set_option linter.unusedVariables false

set_option maxRecDepth 100000 in
set_option maxHeartbeats 8000000 in
theorem tell_bad (N : Nat) (oa ob oc : Int) (w : World) (hE : Env N w) (ho : In64O (⟨4, oa, ob, oc⟩ : Opn)) (hbad : oc < 0 ∨ 3 < oc ∨ (oc = 0 ∧ ob ≠ 0)) :
    Calls Tryd.prog 38 #[.agg #[.int .i64 (⟨4, oa, ob, oc⟩ : Opn).k, .int .i64 (⟨4, oa, ob, oc⟩ : Opn).a, .int .i64 (⟨4, oa, ob, oc⟩ : Opn).b, .int .i64 (⟨4, oa, ob, oc⟩ : Opn).c]] w (TellD (⟨4, oa, ob, oc⟩ : Opn) w) := by
  have HO := Lib.hid ho
  have HTE := Lib.hid (fun t W ht hb => tell_end (o := (⟨4, oa, ob, oc⟩ : Opn)) (w := w) (w' := W) (t := t) ht hb)
  have hb0 : Below w.heap.size w ((w.alloc (.cells #[.int .i64 4, .int .i64 oa, .int .i64 ob, .int .i64 oc] 65)).alloc (.cells #[.int .i64 oa, .int .i64 ob, .int .i64 oc] 113)) := ((Below.refl _ _).alloc (Nat.le_refl _) _).alloc (by simp) _
  have HB0 := Lib.hid hb0
  have hs1 : (w.alloc (.cells #[.int .i64 4, .int .i64 oa, .int .i64 ob, .int .i64 oc] 65)).heap.size = w.heap.size + 1 := by simp
  have HRB : Hid (((w.alloc (.cells #[.int .i64 4, .int .i64 oa, .int .i64 ob, .int .i64 oc] 65)).alloc (.cells #[.int .i64 oa, .int .i64 ob, .int .i64 oc] 113)).heap[w.heap.size]? = some (.cells #[.int .i64 4, .int .i64 oa, .int .i64 ob, .int .i64 oc] 65 (0, 0))) :=
    Lib.hid ((Below.heap_alloc _ _ _ (by omega)).trans (heap_alloc_new w _))
  have HNB : Hid (((w.alloc (.cells #[.int .i64 4, .int .i64 oa, .int .i64 ob, .int .i64 oc] 65)).alloc (.cells #[.int .i64 oa, .int .i64 ob, .int .i64 oc] 113)).heap[w.heap.size + 1]? = some (.cells #[.int .i64 oa, .int .i64 ob, .int .i64 oc] 113 (0, 0))) :=
    Lib.hid (by rw [← hs1]; exact heap_alloc_new _ _)
  have HE0 := Lib.hid (hE.up hb0)
  have HS0 : Hid (((w.alloc (.cells #[.int .i64 4, .int .i64 oa, .int .i64 ob, .int .i64 oc] 65)).alloc (.cells #[.int .i64 oa, .int .i64 ob, .int .i64 oc] 113)).heap.size = w.heap.size + 2) := Lib.hid (by simp)
  clear hb0 hs1 hE ho
  simp only at *
  have hla : (Lib.itoa oa).length ≤ 21 := itoa_len HO.out.2.1.1 HO.out.2.1.2
  have hlb : (Lib.itoa ob).length ≤ 21 := itoa_len HO.out.2.2.1.1 HO.out.2.2.1.2
  go_enter Tryd.func38, Tryd.ntmps38
  go_upto_region 2 with fail
  generalize (w.alloc (.cells #[.int .i64 4, .int .i64 oa, .int .i64 ob, .int .i64 oc] 65)).alloc (.cells #[.int .i64 oa, .int .i64 ob, .int .i64 oc] 113) = w0 at *
  generalize hrb : w.heap.size = rb at *
  have HRBE := Lib.hid hrb
  clear hrb
  have r0 := (cell_of HRB.out 0).trans rfl
  have r1 := (cell_of HRB.out 1).trans rfl
  have r2 := (cell_of HRB.out 2).trans rfl
  have r3 := (cell_of HRB.out 3).trans rfl
  have HT : Hid (tellF (⟨4, oa, ob, oc⟩ : Opn) = none) := Lib.hid (by unfold tellF; rw [if_pos rfl, if_pos hbad])
  rcases (by omega : oc < 0 ∨ (¬ oc < 0 ∧ oc > 3) ∨ (oc = 0 ∧ ob ≠ 0)) with h | ⟨h, h'⟩ | ⟨h, h'⟩
  · clear hbad
    go_wp2_with fail
    go_ret2
    exact HTE.out none _ HT.out HB0.out
  · clear hbad
    go_wp2_with fail
    go_ret2
    exact HTE.out none _ HT.out HB0.out
  · subst h
    have hbb : (ob != 0) = true := by simpa using h'
    clear hbad
    go_wp2_with fail
    go_ret2
    exact HTE.out none _ HT.out HB0.out

set_option maxRecDepth 100000 in
set_option maxHeartbeats 8000000 in
theorem tell_all (N : Nat) (oa : Int) (w : World) (hE : Env N w) (ho : In64O (⟨4, oa, 0, 0⟩ : Opn)) :
    Calls Tryd.prog 38 #[.agg #[.int .i64 (⟨4, oa, 0, 0⟩ : Opn).k, .int .i64 (⟨4, oa, 0, 0⟩ : Opn).a, .int .i64 (⟨4, oa, 0, 0⟩ : Opn).b, .int .i64 (⟨4, oa, 0, 0⟩ : Opn).c]] w (TellD (⟨4, oa, 0, 0⟩ : Opn) w) := by
  have HO := Lib.hid ho
  have HTE := Lib.hid (fun t W ht hb => tell_end (o := (⟨4, oa, 0, 0⟩ : Opn)) (w := w) (w' := W) (t := t) ht hb)
  have hb0 : Below w.heap.size w ((w.alloc (.cells #[.int .i64 4, .int .i64 oa, .int .i64 0, .int .i64 0] 65)).alloc (.cells #[.int .i64 oa, .int .i64 0, .int .i64 0] 113)) := ((Below.refl _ _).alloc (Nat.le_refl _) _).alloc (by simp) _
  have HB0 := Lib.hid hb0
  have hs1 : (w.alloc (.cells #[.int .i64 4, .int .i64 oa, .int .i64 0, .int .i64 0] 65)).heap.size = w.heap.size + 1 := by simp
  have HRB : Hid (((w.alloc (.cells #[.int .i64 4, .int .i64 oa, .int .i64 0, .int .i64 0] 65)).alloc (.cells #[.int .i64 oa, .int .i64 0, .int .i64 0] 113)).heap[w.heap.size]? = some (.cells #[.int .i64 4, .int .i64 oa, .int .i64 0, .int .i64 0] 65 (0, 0))) :=
    Lib.hid ((Below.heap_alloc _ _ _ (by omega)).trans (heap_alloc_new w _))
  have HNB : Hid (((w.alloc (.cells #[.int .i64 4, .int .i64 oa, .int .i64 0, .int .i64 0] 65)).alloc (.cells #[.int .i64 oa, .int .i64 0, .int .i64 0] 113)).heap[w.heap.size + 1]? = some (.cells #[.int .i64 oa, .int .i64 0, .int .i64 0] 113 (0, 0))) :=
    Lib.hid (by rw [← hs1]; exact heap_alloc_new _ _)
  have HE0 := Lib.hid (hE.up hb0)
  have HS0 : Hid (((w.alloc (.cells #[.int .i64 4, .int .i64 oa, .int .i64 0, .int .i64 0] 65)).alloc (.cells #[.int .i64 oa, .int .i64 0, .int .i64 0] 113)).heap.size = w.heap.size + 2) := Lib.hid (by simp)
  clear hb0 hs1 hE ho
  simp only at *
  have hla : (Lib.itoa oa).length ≤ 21 := itoa_len HO.out.2.1.1 HO.out.2.1.2
  go_enter Tryd.func38, Tryd.ntmps38
  go_upto_region 2 with fail
  generalize (w.alloc (.cells #[.int .i64 4, .int .i64 oa, .int .i64 0, .int .i64 0] 65)).alloc (.cells #[.int .i64 oa, .int .i64 0, .int .i64 0] 113) = w0 at *
  generalize hrb : w.heap.size = rb at *
  have HRBE := Lib.hid hrb
  clear hrb
  have r0 := (cell_of HRB.out 0).trans rfl
  have r1 := (cell_of HRB.out 1).trans rfl
  have r2 := (cell_of HRB.out 2).trans rfl
  have r3 := (cell_of HRB.out 3).trans rfl
  have HT : Hid (tellF (⟨4, oa, 0, 0⟩ : Opn) = some (wSubscribe ++ (32 :: Lib.itoa oa) ++ (32 :: wAll))) := Lib.hid (by unfold tellF; rw [if_pos rfl, if_neg (by simp), if_pos rfl])
  go_wp2_with fail
  refine (fmt_walk N oa w0 HE0.out HO.out.2.1).mono ?_
  rintro e w1 ⟨rfl, hb1⟩
  have HB1 : Hid (Below rb w w1) := Lib.hid (HB0.out.trans (hb1.mono (by have := HS0.out; omega)))
  clear hb1
  go_wp2_with fail
  go_ret2
  have e : (({ data := #[115, 117, 98, 115, 99, 114, 105, 98, 101, 32] } : ByteArray) ++ { data := (Lib.itoa oa).toArray }) ++ { data := #[32, 97, 108, 108] } = ⟨(wSubscribe ++ (32 :: Lib.itoa oa) ++ (32 :: wAll)).toArray⟩ := by
    apply ByteArray.ext
    apply Array.toList_inj.1
    simp [wSubscribe, wAll]
  rw [e]
  exact HTE.out _ _ HT.out HB1.out

end Go.Proofs.YtdmhlhoimaeacaaDoor

/-
  The program's tell (f38): a subscription's line with a number.
-/
namespace Go.Proofs.YtdmhlhoimaeacaaDoor
open Go.RowKit Go.Maps
set_option linter.unusedVariables false


section
variable {P : Program} {l : List Oper} {Q : Exit → Act → World → Prop} {md : Region.Mode} {S : World → Prop}
theorem takeH {i : Nat} {oi : Oper} {v : Value} {fuel : Nat} {listed : Array Bool} {a : Act} {w : World} (hi : l[i]? = some oi)
    (hs : Region.noSelect l.toArray = true) (hf : Region.free md l.toArray listed i = true) (hr : (Region.ready md l.toArray listed).contains i = true)
    (hQ : ∀ c a w, Q (.panic c) (a.put oi.dst v) w → Q (.panic c) a w) (hw : Region.wanted oi (yielded l.toArray a.tmps) = true) (hS : S w)
    (hy : ∀ w, S w → (execOp a.eval oi).run P w = .ok (.value v) w)
    (h : wpAnyH P md l.toArray Q S fuel (listed.setIfInBounds i true) (a.put oi.dst v) w) : wpAnyH P md l.toArray Q S (fuel + 1) listed a w :=
  wpAnyH_take (by simpa using hi) hs hf hr hQ (Or.inl ⟨hw, hy⟩) hS h
theorem consH {fuel : Nat} {listed : Array Bool} {a : Act} {w : World} {i : Nat} {o : Oper} {rs : List Nat} (ho : l[i]? = some o)
    (h : ∀ K' : Act → World → Prop, Shut (∀ a w, S w → (S w → wpAnyH P md l.toArray Q S fuel (listed.setIfInBounds i true) a w) → K' a w) → if Region.wanted o (yielded l.toArray a.tmps) = true then Oper.wp P o a w K' Q else K' (a.put o.dst undef) w)
    (hs : AllReadyH P md l.toArray Q S fuel listed a w rs) : AllReadyH P md l.toArray Q S fuel listed a w (i :: rs) := AllReadyH.cons (by simpa using ho) h hs
end
set_option maxRecDepth 100000 in
set_option maxHeartbeats 8000000 in
theorem tell_sub (N : Nat) (oa ob : Int) (k : Nat) (w : World) (hE : Env N w) (ho : In64O (⟨4, oa, ob, (k : Int)⟩ : Opn)) (hk1 : 1 ≤ k) (hk2 : k < 4) :
    Calls Tryd.prog 38 #[.agg #[.int .i64 (⟨4, oa, ob, (k : Int)⟩ : Opn).k, .int .i64 (⟨4, oa, ob, (k : Int)⟩ : Opn).a, .int .i64 (⟨4, oa, ob, (k : Int)⟩ : Opn).b, .int .i64 (⟨4, oa, ob, (k : Int)⟩ : Opn).c]] w (TellD (⟨4, oa, ob, (k : Int)⟩ : Opn) w) := by
  have HO := Lib.hid ho
  have HTE := Lib.hid (fun t W ht hb => tell_end (o := (⟨4, oa, ob, (k : Int)⟩ : Opn)) (w := w) (w' := W) (t := t) ht hb)
  have hb0 : Below w.heap.size w ((w.alloc (.cells #[.int .i64 4, .int .i64 oa, .int .i64 ob, .int .i64 (k : Int)] 65)).alloc (.cells #[.int .i64 oa, .int .i64 ob, .int .i64 (k : Int)] 113)) := ((Below.refl _ _).alloc (Nat.le_refl _) _).alloc (by simp) _
  have HB0 := Lib.hid hb0
  have hs1 : (w.alloc (.cells #[.int .i64 4, .int .i64 oa, .int .i64 ob, .int .i64 (k : Int)] 65)).heap.size = w.heap.size + 1 := by simp
  have HRB : Hid (((w.alloc (.cells #[.int .i64 4, .int .i64 oa, .int .i64 ob, .int .i64 (k : Int)] 65)).alloc (.cells #[.int .i64 oa, .int .i64 ob, .int .i64 (k : Int)] 113)).heap[w.heap.size]? = some (.cells #[.int .i64 4, .int .i64 oa, .int .i64 ob, .int .i64 (k : Int)] 65 (0, 0))) :=
    Lib.hid ((Below.heap_alloc _ _ _ (by omega)).trans (heap_alloc_new w _))
  have HNB : Hid (((w.alloc (.cells #[.int .i64 4, .int .i64 oa, .int .i64 ob, .int .i64 (k : Int)] 65)).alloc (.cells #[.int .i64 oa, .int .i64 ob, .int .i64 (k : Int)] 113)).heap[w.heap.size + 1]? = some (.cells #[.int .i64 oa, .int .i64 ob, .int .i64 (k : Int)] 113 (0, 0))) :=
    Lib.hid (by rw [← hs1]; exact heap_alloc_new _ _)
  have HE0 := Lib.hid (hE.up hb0)
  have HS0 : Hid (((w.alloc (.cells #[.int .i64 4, .int .i64 oa, .int .i64 ob, .int .i64 (k : Int)] 65)).alloc (.cells #[.int .i64 oa, .int .i64 ob, .int .i64 (k : Int)] 113)).heap.size = w.heap.size + 2) := Lib.hid (by simp)
  clear hb0 hs1 hE ho
  simp only at *
  have hla : (Lib.itoa oa).length ≤ 21 := itoa_len HO.out.2.1.1 HO.out.2.1.2
  have hlb : (Lib.itoa ob).length ≤ 21 := itoa_len HO.out.2.2.1.1 HO.out.2.2.1.2
  go_enter Tryd.func38, Tryd.ntmps38
  go_upto_region 2 with fail
  generalize (w.alloc (.cells #[.int .i64 4, .int .i64 oa, .int .i64 ob, .int .i64 (k : Int)] 65)).alloc (.cells #[.int .i64 oa, .int .i64 ob, .int .i64 (k : Int)] 113) = w0 at *
  generalize hrb : w.heap.size = rb at *
  have HRBE := Lib.hid hrb
  clear hrb
  have r0 := (cell_of HRB.out 0).trans rfl
  have r1 := (cell_of HRB.out 1).trans rfl
  have r2 := (cell_of HRB.out 2).trans rfl
  have r3 := (cell_of HRB.out 3).trans rfl
  have HT : Hid (tellF (⟨4, oa, ob, (k : Int)⟩ : Opn) = some (wSubscribe ++ (32 :: Lib.itoa oa) ++ (32 :: filtW k) ++ (32 :: Lib.itoa ob))) := Lib.hid (by
    unfold tellF
    rw [if_pos rfl, if_neg (by simp; omega), if_neg (by simp; omega)]
    simp only [Int.toNat_natCast]
    rw [filt_same k hk2])
  have hk0 : ((k : Int) == 0) = false := by rw [beq_eq_false_iff_ne]; omega
  have hk4 : (k : Int) < 4 := by omega
  have hk5 : (0 : Int) ≤ (k : Int) := by omega
  have hn1 : ¬ (k : Int) < 0 := by omega
  have hn2 : ¬ (k : Int) > 3 := by omega
  have HFA : Hid (∀ W, Below w0.heap.size w0 W → Calls Tryd.prog 34 #[.int .i64 oa, .int .i64 10] W fun e w' => e = .returned (.string ⟨(Lib.itoa oa).toArray⟩) ∧ Below W.heap.size W w') := Lib.hid (fun W hW => fmt_walk N oa W (HE0.out.up hW) HO.out.2.1)
  have HFB : Hid (∀ W, Below w0.heap.size w0 W → Calls Tryd.prog 34 #[.int .i64 ob, .int .i64 10] W fun e w' => e = .returned (.string ⟨(Lib.itoa ob).toArray⟩) ∧ Below W.heap.size W w') := Lib.hid (fun W hW => fmt_walk N ob W (HE0.out.up hW) HO.out.2.2.1)
  have HKC : Hid (∀ W, Below w0.heap.size w0 W → W.cell? ⟨rb, 1, none⟩ = some (.int .i64 oa) ∧ W.cell? ⟨rb, 2, none⟩ = some (.int .i64 ob) ∧ W.cell? ⟨rb, 3, none⟩ = some (.int .i64 k)) := Lib.hid (fun W hW => by
    have h := (hW.block rb (by have := HS0.out; omega)).trans HRB.out
    exact ⟨(cell_of h 1).trans rfl, (cell_of h 2).trans rfl, (cell_of h 3).trans rfl⟩)
  have HFL : Hid (∀ W W' : World, W' = W.alloc (.cells filtVals 9) → W'.cell? ⟨W.heap.size, k, none⟩ = some (.string ⟨(filtW k).toArray⟩) ∧ Below W.heap.size W W') := Lib.hid (fun W W' h => by
    subst h
    exact ⟨(cell_of (heap_alloc_new W _) k).trans (filt_get k hk2), (Below.refl _ _).alloc (Nat.le_refl _) _⟩)
  go_upto_region 7 with fail
  have hbw : Below w0.heap.size w0 w0.drew := (Below.refl _ _).drew
  clear r0 r1 r2 r3
  obtain ⟨k1, k2, k3⟩ := HKC.out w0.drew hbw
  have hlf : (filtW k).length ≤ 10 := by
    rcases (by omega : k = 1 ∨ k = 2 ∨ k = 3) with rfl | rfl | rfl <;> decide
  clear HRB HNB HE0 HO hk0 hn1 hn2
  have q1 : ¬ 9223372036854775807 < 10 + (Lib.itoa oa).length := by omega
  have q2 : ¬ 9223372036854775807 < 10 + (Lib.itoa oa).length + 1 := by omega
  have q3 : ¬ 9223372036854775807 < 10 + (Lib.itoa oa).length + 1 + (filtW k).length := by omega
  have q4 : ¬ 9223372036854775807 < 10 + (Lib.itoa oa).length + 1 + (filtW k).length + 1 := by omega
  have q5 : ¬ 9223372036854775807 < 10 + (Lib.itoa oa).length + 1 + (filtW k).length + 1 + (Lib.itoa ob).length := by omega
  have hst : (({ data := #[115, 117, 98, 115, 99, 114, 105, 98, 101, 32] } : ByteArray) ++ { data := (Lib.itoa oa).toArray } ++ { data := #[32] } ++ { data := (filtW k).toArray } ++ { data := #[32] } ++ { data := (Lib.itoa ob).toArray }) = ⟨(wSubscribe ++ (32 :: Lib.itoa oa) ++ (32 :: filtW k) ++ (32 :: Lib.itoa ob)).toArray⟩ := by
    apply ByteArray.ext
    apply Array.toList_inj.1
    simp [wSubscribe]
  have HEND : Hid (∀ W, Below w0.heap.size w0 W → TellD (⟨4, oa, ob, (k : Int)⟩ : Opn) w (.returned (.tuple #[.string ⟨(wSubscribe ++ (32 :: Lib.itoa oa) ++ (32 :: filtW k) ++ (32 :: Lib.itoa ob)).toArray⟩, .bool true])) W) := Lib.hid (fun W hW => HTE.out _ _ HT.out (HB0.out.trans (hW.mono (by have := HS0.out; omega))))
  have HST := Lib.hid hst
  clear hst HB0 HS0 HTE
  refine wp_region_held_drew (S := fun w' => w'.cell? ⟨rb, 1, none⟩ = some (.int .i64 oa) ∧ w'.cell? ⟨rb, 2, none⟩ = some (.int .i64 ob) ∧ w'.cell? ⟨rb, 3, none⟩ = some (.int .i64 k)) (by kernel_rfl) ⟨k1, k2, k3⟩ (fun hHeld => ?_)
  refine takeH (i := 0) (v := ?v1) rfl (by kernel_rfl) (by kernel_rfl) (by kernel_rfl) (fun _ _ _ h => h) (by rfl) (by assumption) ?hy1 ?rest1
  case hy1 => (intro w hSw; (try dsimp only at hSw); first | (go_simp; done) | (go_simp; with_reducible rfl))
  simp only [Act.put, List.setIfInBounds_toArray, List.set_cons_zero, List.set_cons_succ]
  refine takeH (i := 1) (v := ?v2) rfl (by kernel_rfl) (by kernel_rfl) (by kernel_rfl) (fun _ _ _ h => h) (by rfl) (by assumption) ?hy2 ?rest2
  case hy2 => (intro w hSw; (try dsimp only at hSw); first | (go_simp; done) | (go_simp; with_reducible rfl))
  simp only [Act.put, List.setIfInBounds_toArray, List.set_cons_zero, List.set_cons_succ]
  refine takeH (i := 6) (v := ?v3) rfl (by kernel_rfl) (by kernel_rfl) (by kernel_rfl) (fun _ _ _ h => h) (by rfl) (by assumption) ?hy3 ?rest3
  case hy3 => (intro w hSw; (try dsimp only at hSw); first | (go_simp; done) | (go_simp; with_reducible rfl))
  simp only [Act.put, List.setIfInBounds_toArray, List.set_cons_zero, List.set_cons_succ]
  refine takeH (i := 7) (v := ?v4) rfl (by kernel_rfl) (by kernel_rfl) (by kernel_rfl) (fun _ _ _ h => h) (by rfl) (by assumption) ?hy4 ?rest4
  case hy4 => (intro w hSw; (try dsimp only at hSw); first | (go_simp; done) | (go_simp; with_reducible rfl))
  simp only [Act.put, List.setIfInBounds_toArray, List.set_cons_zero, List.set_cons_succ]
  refine takeH (i := 12) (v := ?v5) rfl (by kernel_rfl) (by kernel_rfl) (by kernel_rfl) (fun _ _ _ h => h) (by rfl) (by assumption) ?hy5 ?rest5
  case hy5 => (intro w hSw; (try dsimp only at hSw); first | (go_simp; done) | (go_simp; with_reducible rfl))
  simp only [Act.put, List.setIfInBounds_toArray, List.set_cons_zero, List.set_cons_succ]
  refine takeH (i := 13) (v := ?v6) rfl (by kernel_rfl) (by kernel_rfl) (by kernel_rfl) (fun _ _ _ h => h) (by rfl) (by assumption) ?hy6 ?rest6
  case hy6 => (intro w hSw; (try dsimp only at hSw); first | (go_simp; done) | (go_simp; with_reducible rfl))
  simp only [Act.put, List.setIfInBounds_toArray, List.set_cons_zero, List.set_cons_succ]
  refine wpAnyH_ready (rs := [2]) (by kernel_rfl) (by simp) (consH rfl (fun K hK => ?_) AllReadyH.nil)
  go_simp
  go_at_call 34
  refine ((HFA.out _ hbw).mono ?_)
  rintro e w' ⟨rfl, hb'⟩
  have hbw := hbw.trans (hb'.mono hbw.size)
  obtain ⟨k1, k2, k3⟩ := HKC.out _ hbw
  clear hb'
  refine hK.out _ _ ⟨k1, k2, k3⟩ (fun hHeld => ?_)
  clear hK K
  try simp only [Act.put, List.setIfInBounds_toArray, List.set_cons_zero, List.set_cons_succ]
  refine takeH (i := 3) (v := ?v7) rfl (by kernel_rfl) (by kernel_rfl) (by kernel_rfl) (fun _ _ _ h => h) (by rfl) (by assumption) ?hy7 ?rest7
  case hy7 => (intro w hSw; (try dsimp only at hSw); first | (go_simp; done) | (go_simp; with_reducible rfl))
  simp only [Act.put, List.setIfInBounds_toArray, List.set_cons_zero, List.set_cons_succ]
  refine takeH (i := 4) (v := ?v8) rfl (by kernel_rfl) (by kernel_rfl) (by kernel_rfl) (fun _ _ _ h => h) (by rfl) (by assumption) ?hy8 ?rest8
  case hy8 => (intro w hSw; (try dsimp only at hSw); first | (go_simp; done) | (go_simp; with_reducible rfl))
  simp only [Act.put, List.setIfInBounds_toArray, List.set_cons_zero, List.set_cons_succ]
  refine wpAnyH_ready (rs := [5]) (by kernel_rfl) (by simp) (consH rfl (fun K hK => ?_) AllReadyH.nil)
  go_simp
  go_at_call 63
  refine ((filters_walk _).mono ?_)
  rintro e w' ⟨rfl, hw'⟩
  obtain ⟨hf, hb'⟩ := HFL.out _ _ hw'
  have hbw := hbw.trans (hb'.mono hbw.size)
  obtain ⟨k1, k2, k3⟩ := HKC.out _ hbw
  clear hb' hw'
  refine hK.out _ _ ⟨k1, k2, k3⟩ (fun hHeld => ?_)
  clear hK K
  try simp only [Act.put, List.setIfInBounds_toArray, List.set_cons_zero, List.set_cons_succ]
  refine takeH (i := 8) (v := ?v9) rfl (by kernel_rfl) (by kernel_rfl) (by kernel_rfl) (fun _ _ _ h => h) (by rfl) (by assumption) ?hy9 ?rest9
  case hy9 => (intro w hSw; (try dsimp only at hSw); first | (go_simp; done) | (go_simp; with_reducible rfl))
  simp only [Act.put, List.setIfInBounds_toArray, List.set_cons_zero, List.set_cons_succ]
  refine wpAnyH_ready (rs := [9, 14]) (by kernel_rfl) (by simp) (consH rfl (fun K hK => ?_) (consH rfl (fun K hK => ?_) AllReadyH.nil))
  · go_simp
    refine hK.out _ _ ⟨k1, k2, k3⟩ (fun hHeld => ?_)
    clear hK K
    try simp only [Act.put, List.setIfInBounds_toArray, List.set_cons_zero, List.set_cons_succ]
    refine takeH (i := 10) (v := ?v10) rfl (by kernel_rfl) (by kernel_rfl) (by kernel_rfl) (fun _ _ _ h => h) (by rfl) (by assumption) ?hy10 ?rest10
    case hy10 => (intro w hSw; (try dsimp only at hSw); first | (go_simp; done) | (go_simp; with_reducible rfl))
    simp only [Act.put, List.setIfInBounds_toArray, List.set_cons_zero, List.set_cons_succ]
    refine takeH (i := 11) (v := ?v11) rfl (by kernel_rfl) (by kernel_rfl) (by kernel_rfl) (fun _ _ _ h => h) (by rfl) (by assumption) ?hy11 ?rest11
    case hy11 => (intro w hSw; (try dsimp only at hSw); first | (go_simp; done) | (go_simp; with_reducible rfl))
    simp only [Act.put, List.setIfInBounds_toArray, List.set_cons_zero, List.set_cons_succ]
    refine wpAnyH_ready (rs := [14]) (by kernel_rfl) (by simp) (consH rfl (fun K hK => ?_) AllReadyH.nil)
    go_simp
    go_at_call 34
    refine ((HFB.out _ hbw).mono ?_)
    rintro e w' ⟨rfl, hb'⟩
    have hbw := hbw.trans (hb'.mono hbw.size)
    obtain ⟨k1, k2, k3⟩ := HKC.out _ hbw
    have hf := (hb'.cell (World.block_lt_of_cell? _ _ hf)).trans hf
    clear hb'
    refine hK.out _ _ ⟨k1, k2, k3⟩ (fun hHeld => ?_)
    clear hK K
    try simp only [Act.put, List.setIfInBounds_toArray, List.set_cons_zero, List.set_cons_succ]
    refine takeH (i := 15) (v := ?v12) rfl (by kernel_rfl) (by kernel_rfl) (by kernel_rfl) (fun _ _ _ h => h) (by rfl) (by assumption) ?hy12 ?rest12
    case hy12 => (intro w hSw; (try dsimp only at hSw); first | (go_simp; done) | (go_simp; with_reducible rfl))
    simp only [Act.put, List.setIfInBounds_toArray, List.set_cons_zero, List.set_cons_succ]
    refine takeH (i := 16) (v := ?v13) rfl (by kernel_rfl) (by kernel_rfl) (by kernel_rfl) (fun _ _ _ h => h) (by rfl) (by assumption) ?hy13 ?rest13
    case hy13 => (intro w hSw; (try dsimp only at hSw); first | (go_simp; done) | (go_simp; with_reducible rfl))
    simp only [Act.put, List.setIfInBounds_toArray, List.set_cons_zero, List.set_cons_succ]
    refine takeH (i := 17) (v := ?v14) rfl (by kernel_rfl) (by kernel_rfl) (by kernel_rfl) (fun _ _ _ h => h) (by rfl) (by assumption) ?hy14 ?rest14
    case hy14 => (intro w hSw; (try dsimp only at hSw); first | (go_simp; done) | (go_simp; with_reducible rfl))
    simp only [Act.put, List.setIfInBounds_toArray, List.set_cons_zero, List.set_cons_succ]
    refine wpAnyH_done (by kernel_rfl) ?_ _
    go_wp2_with fail
    go_ret2
    rw [HST.out]
    exact HEND.out _ hbw
  · go_simp
    go_at_call 34
    refine ((HFB.out _ hbw).mono ?_)
    rintro e w' ⟨rfl, hb'⟩
    have hbw := hbw.trans (hb'.mono hbw.size)
    obtain ⟨k1, k2, k3⟩ := HKC.out _ hbw
    have hf := (hb'.cell (World.block_lt_of_cell? _ _ hf)).trans hf
    clear hb'
    refine hK.out _ _ ⟨k1, k2, k3⟩ (fun hHeld => ?_)
    clear hK K
    try simp only [Act.put, List.setIfInBounds_toArray, List.set_cons_zero, List.set_cons_succ]
    refine wpAnyH_ready (rs := [9]) (by kernel_rfl) (by simp) (consH rfl (fun K hK => ?_) AllReadyH.nil)
    go_simp
    refine hK.out _ _ ⟨k1, k2, k3⟩ (fun hHeld => ?_)
    clear hK K
    try simp only [Act.put, List.setIfInBounds_toArray, List.set_cons_zero, List.set_cons_succ]
    refine takeH (i := 10) (v := ?v15) rfl (by kernel_rfl) (by kernel_rfl) (by kernel_rfl) (fun _ _ _ h => h) (by rfl) (by assumption) ?hy15 ?rest15
    case hy15 => (intro w hSw; (try dsimp only at hSw); first | (go_simp; done) | (go_simp; with_reducible rfl))
    simp only [Act.put, List.setIfInBounds_toArray, List.set_cons_zero, List.set_cons_succ]
    refine takeH (i := 11) (v := ?v16) rfl (by kernel_rfl) (by kernel_rfl) (by kernel_rfl) (fun _ _ _ h => h) (by rfl) (by assumption) ?hy16 ?rest16
    case hy16 => (intro w hSw; (try dsimp only at hSw); first | (go_simp; done) | (go_simp; with_reducible rfl))
    simp only [Act.put, List.setIfInBounds_toArray, List.set_cons_zero, List.set_cons_succ]
    refine takeH (i := 15) (v := ?v17) rfl (by kernel_rfl) (by kernel_rfl) (by kernel_rfl) (fun _ _ _ h => h) (by rfl) (by assumption) ?hy17 ?rest17
    case hy17 => (intro w hSw; (try dsimp only at hSw); first | (go_simp; done) | (go_simp; with_reducible rfl))
    simp only [Act.put, List.setIfInBounds_toArray, List.set_cons_zero, List.set_cons_succ]
    refine takeH (i := 16) (v := ?v18) rfl (by kernel_rfl) (by kernel_rfl) (by kernel_rfl) (fun _ _ _ h => h) (by rfl) (by assumption) ?hy18 ?rest18
    case hy18 => (intro w hSw; (try dsimp only at hSw); first | (go_simp; done) | (go_simp; with_reducible rfl))
    simp only [Act.put, List.setIfInBounds_toArray, List.set_cons_zero, List.set_cons_succ]
    refine takeH (i := 17) (v := ?v19) rfl (by kernel_rfl) (by kernel_rfl) (by kernel_rfl) (fun _ _ _ h => h) (by rfl) (by assumption) ?hy19 ?rest19
    case hy19 => (intro w hSw; (try dsimp only at hSw); first | (go_simp; done) | (go_simp; with_reducible rfl))
    simp only [Act.put, List.setIfInBounds_toArray, List.set_cons_zero, List.set_cons_succ]
    refine wpAnyH_done (by kernel_rfl) ?_ _
    go_wp2_with fail
    go_ret2
    rw [HST.out]
    exact HEND.out _ hbw
end Go.Proofs.YtdmhlhoimaeacaaDoor

/-
  The program's tell (f38): an operation by its form.
-/
namespace Go.Proofs.YtdmhlhoimaeacaaDoor
open Go.RowKit Go.Maps
set_option linter.unusedVariables false

theorem lineT_len (k : Nat) (o : Opn) (ho : In64O o) (hk : k < 6) : ∀ i, i ≤ 3 → (lineT k o i).length ≤ 10 + 22 * i
  | 0, _ => by
    show (formOf k).word.length ≤ 10
    rcases (by omega : k = 0 ∨ k = 1 ∨ k = 2 ∨ k = 3 ∨ k = 4 ∨ k = 5) with rfl | rfl | rfl | rfl | rfl | rfl <;> decide
  | i + 1, hi => by
    have ih := lineT_len k o ho hk i (by omega)
    have hn : In64 (opN o i) := by
      rcases (by omega : i = 0 ∨ i = 1 ∨ i = 2) with rfl | rfl | rfl
      · exact ho.2.1
      · exact ho.2.2.1
      · exact ho.2.2.2
    have h := itoa_len hn.1 hn.2
    unfold lineT
    split
    · simp; omega
    · omega
theorem tell_no {o : Opn} {k i : Nat} (hk : k < 6) (he : (formOf k).kind = o.k) (hi : i < 3) (h : okAt k o i = false) : tellF o = none := by
  rw [tell_form hk he]
  rcases (by omega : i = 0 ∨ i = 1 ∨ i = 2) with rfl | rfl | rfl
  · rw [h]; rfl
  · rw [h]; simp
  · rw [h]; simp

set_option maxRecDepth 100000 in
set_option maxHeartbeats 8000000 in
theorem tell_forms (N : Nat) (ok oa ob oc : Int) (w : World) (hE : Env N w) (ho : In64O ⟨ok, oa, ob, oc⟩) (h4 : ok ≠ 4) :
    Calls Tryd.prog 38 #[.agg #[.int .i64 ok, .int .i64 oa, .int .i64 ob, .int .i64 oc]] w (TellD ⟨ok, oa, ob, oc⟩ w) := by
  have HO := Lib.hid ho
  have HTE := Lib.hid (fun t W ht hb => tell_end (o := ⟨ok, oa, ob, oc⟩) (w := w) (w' := W) (t := t) ht hb)
  have hb0 : Below w.heap.size w ((w.alloc (.cells #[.int .i64 ok, .int .i64 oa, .int .i64 ob, .int .i64 oc] 65)).alloc (.cells #[.int .i64 oa, .int .i64 ob, .int .i64 oc] 113)) := ((Below.refl _ _).alloc (Nat.le_refl _) _).alloc (by simp) _
  have HB0 := Lib.hid hb0
  have hs1 : (w.alloc (.cells #[.int .i64 ok, .int .i64 oa, .int .i64 ob, .int .i64 oc] 65)).heap.size = w.heap.size + 1 := by simp
  have HRB : Hid (((w.alloc (.cells #[.int .i64 ok, .int .i64 oa, .int .i64 ob, .int .i64 oc] 65)).alloc (.cells #[.int .i64 oa, .int .i64 ob, .int .i64 oc] 113)).heap[w.heap.size]? = some (.cells #[.int .i64 ok, .int .i64 oa, .int .i64 ob, .int .i64 oc] 65 (0, 0))) :=
    Lib.hid ((Below.heap_alloc _ _ _ (by omega)).trans (heap_alloc_new w _))
  have HNB : Hid (((w.alloc (.cells #[.int .i64 ok, .int .i64 oa, .int .i64 ob, .int .i64 oc] 65)).alloc (.cells #[.int .i64 oa, .int .i64 ob, .int .i64 oc] 113)).heap[w.heap.size + 1]? = some (.cells #[.int .i64 oa, .int .i64 ob, .int .i64 oc] 113 (0, 0))) :=
    Lib.hid (by rw [← hs1]; exact heap_alloc_new _ _)
  have HE0 := Lib.hid (hE.up hb0)
  have HS0 : Hid (((w.alloc (.cells #[.int .i64 ok, .int .i64 oa, .int .i64 ob, .int .i64 oc] 65)).alloc (.cells #[.int .i64 oa, .int .i64 ob, .int .i64 oc] 113)).heap.size = w.heap.size + 2) := Lib.hid (by simp)
  clear hb0 hs1 hE ho
  have hla : (Lib.itoa oa).length ≤ 21 := itoa_len HO.out.2.1.1 HO.out.2.1.2
  have hlb : (Lib.itoa ob).length ≤ 21 := itoa_len HO.out.2.2.1.1 HO.out.2.2.1.2
  go_enter Tryd.func38, Tryd.ntmps38
  go_upto_region 2 with fail
  generalize (w.alloc (.cells #[.int .i64 ok, .int .i64 oa, .int .i64 ob, .int .i64 oc] 65)).alloc (.cells #[.int .i64 oa, .int .i64 ob, .int .i64 oc] 113) = w0 at *
  generalize hrb : w.heap.size = rb at *
  have HRBE := Lib.hid hrb
  clear hrb
  have r0 := (cell_of HRB.out 0).trans rfl
  have r1 := (cell_of HRB.out 1).trans rfl
  have r2 := (cell_of HRB.out 2).trans rfl
  have r3 := (cell_of HRB.out 3).trans rfl
  have h4b : (ok == 4) = false := beq_eq_false_iff_ne.2 h4
  have H4 := Lib.hid h4
  clear h4
  have HSTR := Lib.hid (fun h => tell_strange (o := ⟨ok, oa, ob, oc⟩) H4.out h)
  have HNO2 := Lib.hid (fun k i h1 h2 h3 h => tell_no (o := ⟨ok, oa, ob, oc⟩) (k := k) (i := i) h1 h2 h3 h)
  have HFRM := Lib.hid (fun k h1 h2 => tell_form (o := ⟨ok, oa, ob, oc⟩) (k := k) h1 h2)
  have HLL := Lib.hid (fun k hk i hi => lineT_len k ⟨ok, oa, ob, oc⟩ HO.out hk i hi)
  have hs0 : w0.heap.size = rb + 2 := HS0.out
  have HS1 := Lib.hid hs0
  clear hs0
  go_wp2_with fail
  refine (forms_walk w0).mono ?_
  rintro e w1 ⟨rfl, hw1⟩
  have hb1 : Below w0.heap.size w0 w1 := by rw [hw1]; exact (Below.refl _ _).alloc (Nat.le_refl _) _
  have HFV : Hid (w1.heap[w0.heap.size]? = some (.cells formVals 118 (0, 0))) := Lib.hid (by rw [hw1]; exact heap_alloc_new w0 _)
  have HB1 : Hid (Below rb w w1) := Lib.hid (HB0.out.trans (hb1.mono (by rw [HS1.out]; omega)))
  have HRB1 := Lib.hid ((hb1.block rb (by rw [HS1.out]; omega)).trans HRB.out)
  have HNB1 := Lib.hid ((hb1.block (rb + 1) (by rw [HS1.out]; omega)).trans HNB.out)
  have HE1 := Lib.hid (HE0.out.up hb1)
  have hsz1 : w0.heap.size < w1.heap.size := (Array.getElem?_eq_some_iff.1 HFV.out).1
  have HSZ1 : Hid (rb + 2 < w1.heap.size) := Lib.hid (by have := HS1.out; omega)
  clear hw1 hb1 r0 r1 r2 r3
  rw [HS1.out] at HFV ⊢
  generalize hfb : rb + 2 = fb at *
  clear hsz1 HS0
  go_wp2_with fail
  go_loopw [65] (fun iv wr => ∃ k : Nat, k ≤ 6 ∧ iv = .int .i64 k ∧ (∀ j, j < k → (formOf j).kind ≠ ok) ∧ Below w1.heap.size w1 wr) (fun iv _ => 6 - (intOf iv).toNat)
  case atStart => exact ⟨0, by omega, rfl, fun j hj => by omega, Below.refl _ _⟩
  case round =>
    obtain ⟨k, hk, rfl, hno, hlow⟩ := hrel
    have HNO := Lib.hid hno
    have HLOW := Lib.hid hlow
    have hlt1 := HSZ1.out
    have HRBr := Lib.hid ((hlow.block rb (by omega)).trans HRB1.out)
    have HNBr := Lib.hid ((hlow.block (rb + 1) (by omega)).trans HNB1.out)
    have HFVr := Lib.hid ((hlow.block fb hlt1).trans HFV.out)
    have HBr : Hid (Below rb w wr) := Lib.hid (HB1.out.trans (hlow.mono (by omega)))
    have HEr := Lib.hid (HE1.out.up hlow)
    clear hno hlow
    by_cases hlt : k < 6
    · have hk6 : decide ((k : Int) < 6) = true := decide_eq_true (by omega)
      have hf := fun j (hj : j < 9) => (cell_of HFVr.out (k * 9 + j)).trans (form_get k j hlt hj)
      have e0 : wr.cell? ⟨fb, k * 9, none⟩ = some (.string ⟨(formOf k).word.toArray⟩) := hf 0 (by omega)
      have e1 : wr.cell? ⟨fb, k * 9 + 1, none⟩ = some (.int .i64 (formOf k).kind) := hf 1 (by omega)
      have e2 : wr.cell? ⟨fb, k * 9 + 2, none⟩ = some (.int .i64 (lowOf k 0)) := hf 2 (by omega)
      have e3 : wr.cell? ⟨fb, k * 9 + 3, none⟩ = some (.int .i64 (lowOf k 1)) := hf 3 (by omega)
      have e4 : wr.cell? ⟨fb, k * 9 + 4, none⟩ = some (.int .i64 (lowOf k 2)) := hf 4 (by omega)
      have e5 : wr.cell? ⟨fb, k * 9 + 5, none⟩ = some (.int .i64 (highOf k 0)) := hf 5 (by omega)
      have e6 : wr.cell? ⟨fb, k * 9 + 6, none⟩ = some (.int .i64 (highOf k 1)) := hf 6 (by omega)
      have e7 : wr.cell? ⟨fb, k * 9 + 7, none⟩ = some (.int .i64 (highOf k 2)) := hf 7 (by omega)
      have e8 : wr.cell? ⟨fb, k * 9 + 8, none⟩ = some (.int .i64 (formOf k).bounds.length) := hf 8 (by omega)
      clear hf
      have HTB := Lib.hid (heap_alloc_new wr (.cells #[.string ⟨(formOf k).word.toArray⟩, .int .i64 (formOf k).kind, .int .i64 (lowOf k 0), .int .i64 (lowOf k 1), .int .i64 (lowOf k 2), .int .i64 (highOf k 0), .int .i64 (highOf k 1), .int .i64 (highOf k 2), .int .i64 (formOf k).bounds.length] 118))
      have hba : Below wr.heap.size wr (wr.alloc (.cells #[.string ⟨(formOf k).word.toArray⟩, .int .i64 (formOf k).kind, .int .i64 (lowOf k 0), .int .i64 (lowOf k 1), .int .i64 (lowOf k 2), .int .i64 (highOf k 0), .int .i64 (highOf k 1), .int .i64 (highOf k 2), .int .i64 (formOf k).bounds.length] 118)) := (Below.refl _ _).alloc (Nat.le_refl _) _
      have HBA := Lib.hid hba
      have HRO : Hid (w1.heap.size ≤ wr.heap.size) := Lib.hid HLOW.out.size
      have hfl := form_len k hlt
      clear hba
      go_upto_region 11 with fail
      generalize wr.alloc (.cells #[.string ⟨(formOf k).word.toArray⟩, .int .i64 (formOf k).kind, .int .i64 (lowOf k 0), .int .i64 (lowOf k 1), .int .i64 (lowOf k 2), .int .i64 (highOf k 0), .int .i64 (highOf k 1), .int .i64 (highOf k 2), .int .i64 (formOf k).bounds.length] 118) = w2 at *
      have HB2 : Hid (Below rb w w2) := Lib.hid (HBr.out.trans (HBA.out.mono (by have := HRO.out; omega)))
      have HLOW2 : Hid (Below w1.heap.size w1 w2) := Lib.hid (HLOW.out.trans (HBA.out.mono HRO.out))
      have HRB2 := Lib.hid ((HBA.out.block rb (by have := HRO.out; omega)).trans HRBr.out)
      have HNB2 := Lib.hid ((HBA.out.block (rb + 1) (by have := HRO.out; omega)).trans HNBr.out)
      have HE2 := Lib.hid (HEr.out.up HBA.out)
      have HTS : Hid (wr.heap.size < w2.heap.size) := Lib.hid (Array.getElem?_eq_some_iff.1 HTB.out).1
      have HRB3 : Hid (rb + 1 < wr.heap.size) := Lib.hid (by have := HRO.out; omega)
      generalize wr.heap.size = tb at *
      have r0 := (cell_of HRB2.out 0).trans rfl
      have t0 := (cell_of HTB.out 0).trans rfl
      have t1 := (cell_of HTB.out 1).trans rfl
      clear e0 e1 e2 e3 e4 e5 e6 e7 e8
      by_cases hfe : (formOf k).kind = ok
      · have hfb2 : ((formOf k).kind != ok) = false := by rw [hfe]; simp
        have HFE := Lib.hid hfe
        clear hfe
        generalize hnbv : (formOf k).bounds.length = nb at *
        have HNBV := Lib.hid hnbv
        generalize hkd : (formOf k).kind = kd at *
        generalize hwd : (formOf k).word = wd at *
        have HWD := Lib.hid hwd
        have HFE2 : Hid ((formOf k).kind = ok) := Lib.hid (hkd.trans HFE.out)
        clear hnbv hkd hwd
        obtain ⟨wo, hwo⟩ : ∃ wo, wo = wr := ⟨_, rfl⟩
        subst hwo
        go_wp2_with fail
        go_loopw [7, 76] (fun lv iv wr => ∃ i : Nat, i ≤ 3 ∧ iv = .int .i64 i ∧ lv = .string ⟨(lineT k ⟨ok, oa, ob, oc⟩ i).toArray⟩ ∧ (∀ j, j < i → okAt k ⟨ok, oa, ob, oc⟩ j = true) ∧ Below w2.heap.size w2 wr) (fun _ iv _ => 3 - (intOf iv).toNat)
        case atStart => exact ⟨0, Nat.zero_le _, rfl, by rw [← HWD.out]; rfl, (fun j hj => by omega), Below.refl _ _⟩
        case round =>
          obtain ⟨i, hi, rfl, rfl, hoks, hlow⟩ := hrel
          have HOKS := Lib.hid hoks
          have HLI := Lib.hid hlow
          have HTBi := Lib.hid ((hlow.block tb HTS.out).trans HTB.out)
          have HNBi := Lib.hid ((hlow.block (rb + 1) (by have := HRB3.out; have := HTS.out; omega)).trans HNB2.out)
          have HEi := Lib.hid (HE2.out.up hlow)
          have HBI : Hid (Below rb w wr) := Lib.hid (HB2.out.trans (hlow.mono (by have := HRB3.out; have := HTS.out; omega)))
          clear hoks hlow t0 t1 r0
          have hll := HLL.out k hlt i hi
          by_cases hj3 : i < 3
          · have t8 : wr.cell? ⟨tb, 8, none⟩ = some (.int .i64 nb) := (cell_of HTBi.out 8).trans rfl
            have tn : wr.cell? ⟨rb + 1, i, none⟩ = some (.int .i64 (opN ⟨ok, oa, ob, oc⟩ i)) := (cell_of HNBi.out i).trans (by rcases (by omega : i = 0 ∨ i = 1 ∨ i = 2) with rfl | rfl | rfl <;> rfl)
            have tl : wr.cell? ⟨tb, 2 + i, none⟩ = some (.int .i64 (lowOf k i)) := (cell_of HTBi.out (2 + i)).trans (by rcases (by omega : i = 0 ∨ i = 1 ∨ i = 2) with rfl | rfl | rfl <;> rfl)
            have th : wr.cell? ⟨tb, 5 + i, none⟩ = some (.int .i64 (highOf k i)) := (cell_of HTBi.out (5 + i)).trans (by rcases (by omega : i = 0 ∨ i = 1 ∨ i = 2) with rfl | rfl | rfl <;> rfl)
            have hI : In64 (opN ⟨ok, oa, ob, oc⟩ i) := by
              rcases (by omega : i = 0 ∨ i = 1 ∨ i = 2) with rfl | rfl | rfl
              · exact HO.out.2.1
              · exact HO.out.2.2.1
              · exact HO.out.2.2.2
            have HI := Lib.hid hI
            have hil := itoa_len hI.1 hI.2
            have HOKA : Hid (okAt k ⟨ok, oa, ob, oc⟩ i = if i < nb then decide (lowOf k i ≤ opN ⟨ok, oa, ob, oc⟩ i) && decide (opN ⟨ok, oa, ob, oc⟩ i ≤ highOf k i) else opN ⟨ok, oa, ob, oc⟩ i == 0) := Lib.hid (by unfold okAt; rw [HNBV.out])
            have HLT1 : Hid (lineT k ⟨ok, oa, ob, oc⟩ (i + 1) = if i < nb then lineT k ⟨ok, oa, ob, oc⟩ i ++ (32 :: Lib.itoa (opN ⟨ok, oa, ob, oc⟩ i)) else lineT k ⟨ok, oa, ob, oc⟩ i) := Lib.hid (by rw [lineT, HNBV.out])
            have s1' : (0 : Int) ≤ (i : Int) := by omega
            have s2' : (i : Int) < 3 := by omega
            clear hI
            generalize hln : lineT k ⟨ok, oa, ob, oc⟩ i = ln at *
            generalize hnv : opN ⟨ok, oa, ob, oc⟩ i = nv at *
            generalize hlv : lowOf k i = lv at *
            generalize hhv : highOf k i = hv at *
            by_cases hib : i < nb
            · have hib1 : ¬ (i : Int) ≥ (nb : Int) := by omega
              have hib2 : decide ((i : Int) ≥ (nb : Int)) = false := decide_eq_false hib1
              have hib3 : (i : Int) < (nb : Int) := by omega
              have hib4 : decide ((i : Int) < (nb : Int)) = true := decide_eq_true hib3
              have HLT2 : Hid (lineT k ⟨ok, oa, ob, oc⟩ (i + 1) = ln ++ (32 :: Lib.itoa nv)) := Lib.hid (by rw [HLT1.out, if_pos hib])
              go_upto_region 17 with fail
              by_cases hlo : nv < lv
              · have hlo2 : decide (nv < lv) = true := decide_eq_true hlo
                have HBAD : Hid (okAt k ⟨ok, oa, ob, oc⟩ i = false) := Lib.hid (by rw [HOKA.out, if_pos hib, decide_eq_false (by omega)]; rfl)
                have HT : Hid (tellF ⟨ok, oa, ob, oc⟩ = none) := Lib.hid (HNO2.out k i hlt HFE2.out hj3 HBAD.out)
                go_quiet (fail)
                go_wp2_with fail
                go_ret2
                exact HTE.out none _ HT.out (below_drewN HBI.out _)
              · have hlo2 : decide (nv < lv) = false := decide_eq_false hlo
                by_cases hhi : nv > hv
                · have hhi2 : decide (nv > hv) = true := decide_eq_true hhi
                  have HBAD : Hid (okAt k ⟨ok, oa, ob, oc⟩ i = false) := Lib.hid (by rw [HOKA.out, if_pos hib, decide_eq_false (show ¬ nv ≤ hv by omega)]; simp)
                  have HT : Hid (tellF ⟨ok, oa, ob, oc⟩ = none) := Lib.hid (HNO2.out k i hlt HFE2.out hj3 HBAD.out)
                  go_quiet (fail)
                  go_wp2_with fail
                  go_ret2
                  exact HTE.out none _ HT.out (below_drewN HBI.out _)
                · have hhi2 : decide (nv > hv) = false := decide_eq_false hhi
                  have HGOOD : Hid (okAt k ⟨ok, oa, ob, oc⟩ i = true) := Lib.hid (by rw [HOKA.out, if_pos hib, decide_eq_true (by omega), decide_eq_true (by omega)]; rfl)
                  go_quiet (fail)
                  go_wp2_with fail
                  refine (fmt_walk N nv _ (HEi.out.up (below_drewN (Below.refl wr.heap.size wr) _)) HI.out).mono ?_
                  rintro e w5 ⟨rfl, hb5⟩
                  have HB5 : Hid (Below w2.heap.size w2 w5) := Lib.hid ((below_drewN HLI.out _).trans (hb5.mono HLI.out.size))
                  clear hb5
                  go_wp2_with fail
                  go_roundw
                  case rel =>
                    have hrel5 : ∃ i' : Nat, i' ≤ 3 ∧ Value.int .i64 ((i : Int) + 1) = .int .i64 i' ∧ Value.string ({ data := ln.toArray } ++ ({ data := #[32] } ++ { data := (Lib.itoa nv).toArray })) = .string ⟨(lineT k ⟨ok, oa, ob, oc⟩ i').toArray⟩ ∧ (∀ j, j < i' → okAt k ⟨ok, oa, ob, oc⟩ j = true) ∧ Below w2.heap.size w2 w5 := by
                      refine ⟨i + 1, by omega, by go_num, ?_, (fun j hj => ?_), HB5.out⟩
                      · rw [HLT2.out]
                        apply congrArg Value.string
                        apply ByteArray.ext
                        apply Array.toList_inj.1
                        simp
                      · by_cases e : j = i
                        · subst e; exact HGOOD.out
                        · exact HOKS.out j (by omega)
                    exact hrel5
                  case measure => simp [intOf]; omega
            · have hib1 : (i : Int) ≥ (nb : Int) := by omega
              have hib2 : decide ((i : Int) ≥ (nb : Int)) = true := decide_eq_true hib1
              have hib3 : ¬ (i : Int) < (nb : Int) := by omega
              have hib4 : decide ((i : Int) < (nb : Int)) = false := decide_eq_false hib3
              have HLT2 : Hid (lineT k ⟨ok, oa, ob, oc⟩ (i + 1) = ln) := Lib.hid (by rw [HLT1.out, if_neg hib])
              by_cases hn0 : nv = 0
              · have hnb : (nv != 0) = false := by rw [hn0]; rfl
                have HGOOD : Hid (okAt k ⟨ok, oa, ob, oc⟩ i = true) := Lib.hid (by rw [HOKA.out, if_neg hib, hn0]; rfl)
                go_upto_region 17 with fail
                go_quiet (fail)
                go_wp2_with fail
                go_roundw
                case rel =>
                  refine ⟨i + 1, by omega, by go_num, by rw [HLT2.out], (fun j hj => ?_), below_drewN HLI.out _⟩
                  by_cases e : j = i
                  · subst e; exact HGOOD.out
                  · exact HOKS.out j (by omega)
                case measure => simp [intOf]; omega
              · have hnb : (nv != 0) = true := by simpa using hn0
                have HBAD : Hid (okAt k ⟨ok, oa, ob, oc⟩ i = false) := Lib.hid (by rw [HOKA.out, if_neg hib]; simpa using hn0)
                have HT : Hid (tellF ⟨ok, oa, ob, oc⟩ = none) := Lib.hid (HNO2.out k i hlt HFE2.out hj3 HBAD.out)
                go_wp2_with fail
                go_ret2
                exact HTE.out none _ HT.out HBI.out
          · obtain rfl : i = 3 := by omega
            have HON : Hid (tellF ⟨ok, oa, ob, oc⟩ = some (lineT k ⟨ok, oa, ob, oc⟩ 3)) := Lib.hid (by rw [HFRM.out k hlt HFE2.out, HOKS.out 0 (by omega), HOKS.out 1 (by omega), HOKS.out 2 (by omega)]; rfl)
            go_wp2_with fail
            go_ret2
            exact HTE.out _ _ HON.out HBI.out
      · have hfb2 : ((formOf k).kind != ok) = true := by simpa using hfe
        have HNE : Hid (∀ j, j < k + 1 → (formOf j).kind ≠ ok) := Lib.hid (fun j hj => by
          by_cases e : j = k
          · subst e; exact hfe
          · exact HNO.out j (by omega))
        clear hfe
        go_wp2_with fail
        go_roundw
        case rel => exact ⟨k + 1, by omega, by go_num, HNE.out, HLOW2.out⟩
        case measure => simp [intOf]; omega
    · obtain rfl : k = 6 := by omega
      have HON : Hid (tellF ⟨ok, oa, ob, oc⟩ = none) := Lib.hid (HSTR.out (fun j hj => HNO.out j hj))
      go_wp2_with fail
      go_ret2
      exact HTE.out none _ HON.out HBr.out
end Go.Proofs.YtdmhlhoimaeacaaDoor
