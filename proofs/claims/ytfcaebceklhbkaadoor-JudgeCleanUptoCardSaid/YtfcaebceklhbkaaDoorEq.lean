/-
  Items and faults compared. No walk.
-/
import Derived.Test.YtfcaebceklhbkaaDoorWritten
import Derived.Laws.StructEq
namespace Go.Proofs.YtfcaebceklhbkaaDoor
open Go.RowKit
set_option linter.unusedVariables false

theorem held73 : Tryd.prog.stoodInHeld 73 = false := by kernel_rfl
theorem held77 : Tryd.prog.stoodInHeld 77 = false := by kernel_rfl
theorem part2 (cs : Array Value) (off : Nat) (v : Value) (w : World) (h : cs[off]? = some v) : (part 2 cs off).run Tryd.prog w = .ok v w := by
  simp [part, isAgg, run_underlying Tryd.underlying2, h, Result.andThen]
theorem part3 (cs : Array Value) (off : Nat) (v : Value) (w : World) (h : cs[off]? = some v) : (part 3 cs off).run Tryd.prog w = .ok v w := by
  simp [part, isAgg, run_underlying Tryd.underlying3, h, Result.andThen]
theorem eq2 (d : Nat) (x y : Int) (w : World) : (Op.equalIn (d + 1) 2 (.int .i64 x) (.int .i64 y)).run Tryd.prog w = .ok (decide (x = y)) w := by
  simp only [Op.equalIn, Sem.run_bind, run_underlying Tryd.underlying2, Result.andThen_ok]
  by_cases h : x = y <;> simp [h]
theorem eq3 (d : Nat) (x y : Int) (w : World) : (Op.equalIn (d + 1) 3 (.int .i64 x) (.int .i64 y)).run Tryd.prog w = .ok (decide (x = y)) w := by
  simp only [Op.equalIn, Sem.run_bind, run_underlying Tryd.underlying3, Result.andThen_ok]
  by_cases h : x = y <;> simp [h]

theorem eqf2 (d : Nat) (xs ys : Array Value) (f : Field) (fs : List Field) (x y : Int) (w : World) (hn : f.name ≠ "_") (ht : f.type = 2) (hx : xs[f.offset]? = some (.int .i64 x)) (hy : ys[f.offset]? = some (.int .i64 y)) :
    (Op.eqFields (d + 1) xs ys (f :: fs)).run Tryd.prog w = if x = y then (Op.eqFields (d + 1) xs ys fs).run Tryd.prog w else .ok false w := by
  simp only [Op.eqFields, if_pos hn, Sem.run_bind, ht, part2 xs _ _ w hx, part2 ys _ _ w hy, Result.andThen_ok, eq2]
  by_cases h : x = y <;> simp [h]
theorem eqf3 (d : Nat) (xs ys : Array Value) (f : Field) (fs : List Field) (x y : Int) (w : World) (hn : f.name ≠ "_") (ht : f.type = 3) (hx : xs[f.offset]? = some (.int .i64 x)) (hy : ys[f.offset]? = some (.int .i64 y)) :
    (Op.eqFields (d + 1) xs ys (f :: fs)).run Tryd.prog w = if x = y then (Op.eqFields (d + 1) xs ys fs).run Tryd.prog w else .ok false w := by
  simp only [Op.eqFields, if_pos hn, Sem.run_bind, ht, part3 xs _ _ w hx, part3 ys _ _ w hy, Result.andThen_ok, eq3]
  by_cases h : x = y <;> simp [h]

def eqItem (a b d a' b' d' : Int) : Bool := decide (a = a') && (decide (b = b') && decide (d = d'))

theorem equal_item (a b d a' b' d' : Int) (w : World) : (Op.equal 73 (.agg #[.int .i64 a, .int .i64 b, .int .i64 d]) (.agg #[.int .i64 a', .int .i64 b', .int .i64 d'])).run Tryd.prog w = .ok (eqItem a b d a' b' d') w := by
  have hfs : Tryd.prog.underlying 73 = some (.struct (Tryd.prog.fieldsOf 73)) := by simp [Program.fieldsOf, Tryd.underlying73]
  have h := run_equalIn_struct (P := Tryd.prog) w 9999 73 #[.int .i64 a, .int .i64 b, .int .i64 d] #[.int .i64 a', .int .i64 b', .int .i64 d'] hfs held73
  refine h.trans ?_
  simp only [Program.fieldsOf, Tryd.underlying73]
  rw [eqf3 _ _ _ _ _ a a' w (by decide) rfl rfl rfl, eqf3 _ _ _ _ _ b b' w (by decide) rfl rfl rfl, eqf2 _ _ _ _ _ d d' w (by decide) rfl rfl rfl]
  simp only [Op.eqFields, Sem.run_pure, eqItem]
  by_cases h1 : a = a' <;> by_cases h2 : b = b' <;> by_cases h3 : d = d' <;> simp [h1, h2, h3]
theorem eql_item (a b d a' b' d' : Int) (w : World) :
    (binOp .eql 73 (.agg #[.int .i64 a, .int .i64 b, .int .i64 d]) (.agg #[.int .i64 a', .int .i64 b', .int .i64 d'])).run Tryd.prog w = .ok (.bool (eqItem a b d a' b' d')) w := by
  simp only [binOp, Sem.run_bind, equal_item, Result.andThen_ok, Sem.run_pure]
theorem neq_item (a b d a' b' d' : Int) (w : World) :
    (binOp .neq 73 (.agg #[.int .i64 a, .int .i64 b, .int .i64 d]) (.agg #[.int .i64 a', .int .i64 b', .int .i64 d'])).run Tryd.prog w = .ok (.bool (!eqItem a b d a' b' d')) w := by
  simp only [binOp, Sem.run_bind, equal_item, Result.andThen_ok, Sem.run_pure]

def eqFlt (f g : Flt) : Bool := decide (f.k = g.k) && (decide (f.r = g.r) && (decide (f.i = g.i) && (decide (f.q = g.q) && decide (f.w = g.w))))
theorem equal_flt (f g : Flt) (w : World) : (Op.equal 77 (.agg #[.int .i64 f.k, .int .i64 f.r, .int .i64 f.i, .int .i64 f.q, .int .i64 f.w]) (.agg #[.int .i64 g.k, .int .i64 g.r, .int .i64 g.i, .int .i64 g.q, .int .i64 g.w])).run Tryd.prog w = .ok (eqFlt f g) w := by
  have hfs : Tryd.prog.underlying 77 = some (.struct (Tryd.prog.fieldsOf 77)) := by simp [Program.fieldsOf, Tryd.underlying77]
  have h := run_equalIn_struct (P := Tryd.prog) w 9999 77 #[.int .i64 f.k, .int .i64 f.r, .int .i64 f.i, .int .i64 f.q, .int .i64 f.w] #[.int .i64 g.k, .int .i64 g.r, .int .i64 g.i, .int .i64 g.q, .int .i64 g.w] hfs held77
  refine h.trans ?_
  simp only [Program.fieldsOf, Tryd.underlying77]
  rw [eqf3 _ _ _ _ _ f.k g.k w (by decide) rfl rfl rfl, eqf3 _ _ _ _ _ f.r g.r w (by decide) rfl rfl rfl, eqf3 _ _ _ _ _ f.i g.i w (by decide) rfl rfl rfl, eqf2 _ _ _ _ _ f.q g.q w (by decide) rfl rfl rfl, eqf2 _ _ _ _ _ f.w g.w w (by decide) rfl rfl rfl]
  simp only [Op.eqFields, Sem.run_pure, eqFlt]
  by_cases h1 : f.k = g.k <;> by_cases h2 : f.r = g.r <;> by_cases h3 : f.i = g.i <;> by_cases h4 : f.q = g.q <;> by_cases h5 : f.w = g.w <;> simp [h1, h2, h3, h4, h5]
theorem neq_flt (f g : Flt) (w : World) :
    (binOp .neq 77 (.agg #[.int .i64 f.k, .int .i64 f.r, .int .i64 f.i, .int .i64 f.q, .int .i64 f.w]) (.agg #[.int .i64 g.k, .int .i64 g.r, .int .i64 g.i, .int .i64 g.q, .int .i64 g.w])).run Tryd.prog w = .ok (.bool (!eqFlt f g)) w := by
  simp only [binOp, Sem.run_bind, equal_flt, Result.andThen_ok, Sem.run_pure]
theorem eqFlt_iff (f g : Flt) : eqFlt f g = true ↔ f = g := by
  cases f; cases g
  simp [eqFlt]
end Go.Proofs.YtfcaebceklhbkaaDoor
