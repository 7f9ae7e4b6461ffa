/-
  The builder for this seat's laws: a row that lists tables and bounds its arguments' bulk, over a walk of one goroutine.
-/
import Derived.Test.YtfcaebceklhbkaaDoorFixed
import Derived.Test.YtfcaebceklhbkaaDoorCards
import Derived.Test.YtfcaebceklhbkaaDoorTie
import Derived.ProofKit
import Derived.OpenShut
import Derived.Deep.DeepHandedRow
import Derived.Lib.LaidTab
import Derived.ChangeOld
import Derived.Carry
namespace Go.Proofs.YtfcaebceklhbkaaDoor
open Go.ChangeShapes Go.WideShapes Go.ChangeAt Go.RowKit
set_option linter.unusedVariables false

section
variable {H : Type} {enc : TypeId × Value → H}

/-- Arguments of whatever types read behind the call as before it, where nothing below the heap's old size has turned. -/
theorem below_trodAll {P : Program} (hl : laidOutB P = true) {W W' : World} (hb : Below W.heap.size W W') : ∀ {ts : List TypeId} {vs : List Value} {ds : List (DataW H)} {ps : List MemPlace},
    (∀ t ∈ ts, P.readableRec t = true ∧ t < P.types.size) → DataW.TrodAll enc P W 0 (fun _ => true) true ts vs ds ps → (∀ x ∈ ps, x.block < W.heap.size) → DataW.TrodAll enc P W' 0 (fun b => decide (b < W.heap.size)) true ts vs ds ps
  | [], [], [], ps, _, h, _ => h
  | t :: ts, v :: vs, d :: ds, ps, hr, h, hlt => by
    obtain ⟨p, q, h1, h2, rfl⟩ := h
    exact ⟨p, q, Below.trod hl (hr t (by simp)).1 (hr t (by simp)).2 h1 hb (fun x hx => hlt x (by simp [hx])), below_trodAll hl hb (fun t ht => hr t (by simp [ht])) h2 (fun x hx => hlt x (by simp [hx])), rfl⟩
  | [], _ :: _, _, _, _, h, _ => h.elim
  | [], [], _ :: _, _, _, h, _ => h.elim
  | _ :: _, [], _, _, _, h, _ => h.elim
  | _ :: _, _ :: _, [], _, _, h, _ => h.elim

/-- What a law's call leaves: true; each argument as it was. -/
theorem law_post {P : Program} {fn : Func} {s : ChangeSpec} {apart fresh handsOn : Bool} {W W' : World} {args : Array Value} {ds gs : List (DataW H)} {before : List MemPlace} {tb : TypeId}
    (hl : laidOutB P = true) (hr : ∀ t ∈ fn.params.toList, P.readableRec t = true ∧ t < P.types.size) (hres : fn.resultTypes = #[tb]) (htb : P.underlying tb = some .bool) (hv : s.vars = [])
    (hs : s.fn H ds = { results := [.lit (.bool true)], args := ds }) (hW : DataW.Whole enc P fn.params.toList s.vars apart W args.toList ds gs before) (hb : Below W.heap.size W W') :
    s.post enc P fn apart fresh handsOn false W args (.bool true) W' := by
  have hW' := hW
  obtain ⟨p, q, hA, hV, rfl, hfz, hnd⟩ := hW
  rw [hv] at hV
  obtain ⟨rfl, rfl⟩ := trodVars_none hV
  have hlt := DataW.TrodAll.lt hA
  have hsp : (s.fn H (ds ++ [])) = { results := [.lit (.bool true)], args := ds } := by rw [List.append_nil]; exact hs
  refine ⟨ds, [], p ++ [], [], p, [], hW', ?_, ?_, ?_, hb.frame _, fun h => by cases h⟩
  · rw [hsp, hres]
    exact trodAll_mk1 (shut_bool htb _)
  · rw [hsp]
    exact below_trodAll hl hb hr hA hlt
  · rw [hsp, hv]
    rfl

end

theorem ownNone : ownKnob Tryd.prog.godebug = none := by kernel_rfl
theorem gPow : Tryd.prog.globalNamed "internal/strconv.uint64pow10" = some 0 := by kernel_rfl
abbrev laidL : List (String × DataW Unit) := [("math/bits.deBruijn32tab", Rows.laid_math_bits_deBruijn32tab), ("math/bits.deBruijn64tab", Rows.laid_math_bits_deBruijn64tab), ("internal/strconv.uint64pow10", Rows.laid_internal_strconv_uint64pow10)]

theorem tab_of {W : World} (h : laidMetH Tryd.prog laidL W) : Tab W := by
  refine Lib.tabBelow_of_tabIs ?_
  obtain ⟨ps, ⟨g0, t0, cs0, f0, p0, q0, _, _, _, _, ⟨g1, t1, cs1, f1, p1, q1, _, _, _, _, ⟨g2, t2, cs2, f2, p2, q2, hg, ht, hvar, hd, _, _⟩, _⟩, _⟩, _⟩ := h
  obtain rfl := Option.some.inj (gPow.symm.trans hg)
  obtain rfl := Option.some.inj ((show (Tryd.prog.globals[0]?).map (·.type) = some 170 by kernel_rfl).symm.trans ht)
  have e : Rows.laid_internal_strconv_uint64pow10 (H := Unit) = Lib.tabData .u64 Lib.pow10Tab := rfl
  rw [e] at hd
  unfold Lib.TabIs
  rw [hvar, ← Lib.cells_of_tab Tryd.underlying170 Tryd.underlying139 (by kernel_rfl) (by kernel_rfl) hd]

/-- A table's numbers as the heap holds them. -/
def tabVals : DataW Unit → Array Value
  | .agg l => (l.map fun | .lit x => x.value | _ => undef).toArray
  | _ => #[]
def setTab (d : DataW Unit) : Obj → Obj
  | .cells _ t frozen => .cells (tabVals d) t frozen
  | o => o
/-- A world for the witness: the tables hold what their initialisers lay. -/
noncomputable def laidWorld (os : Os) : World :=
  { World.holding Tryd.prog os ⟨#[], #[], []⟩ with heap := (((World.holding Tryd.prog os ⟨#[], #[], []⟩).heap.modify 0 (setTab Rows.laid_internal_strconv_uint64pow10)).modify 1 (setTab Rows.laid_math_bits_deBruijn32tab)).modify 2 (setTab Rows.laid_math_bits_deBruijn64tab) }

set_option maxRecDepth 100000 in
/-- A law over the tables, its arguments of bounded bulk: the row's step. -/
theorem law_laid {H : Type} {enc : TypeId × Value → H} {os : Os} {f : FuncId} {fn : Func} {s : ChangeSpec} (F : Stop.Interp) (started : os.Started) (noInit : Tryd.checked.prog.inits.idxOf? f = none) (hfn : Tryd.prog.funcs[f]? = some fn)
    (witness : ∃ (w : World) (tape : Tape) (i : Input), w.os = os ∧ (w.forCall tape i).Shaped Tryd.checked.prog ∧ i.vars = [] ∧ Input.okWide Tryd.checked.prog (w.forCall tape i) .any w.heap.size f i ∧
      (Rows.OpenSpec.upto s).preRow enc Tryd.checked.prog fn [] false laidL (w.forCall tape i).memory i.args ∧ Assume.holds {} Tryd.checked.prog (lone (Frame.enter Tryd.checked.prog f i.args .normal) [] (w.forCall tape i)))
    (hr : ∀ t ∈ fn.params.toList, Tryd.prog.readableRec t = true ∧ t < Tryd.prog.types.size) (hres : fn.resultTypes = #[4]) (hv : s.vars = [])
    (hs : ∀ ds : List (DataW H), ds.length = fn.params.size → s.fn H ds = { results := [.lit (.bool true)], args := ds })
    (walk : ∀ (W : World) (base : Nat) (args : Array Value) (ds : List (DataW H)) (p : List MemPlace),
      (∀ (j : Nat) t v, fn.params[j]? = some t → args[j]? = some v → Value.okWide Tryd.prog W .any base t v) →
      DataW.TrodAll enc Tryd.prog W 0 (fun _ => true) true fn.params.toList args.toList ds p → Rows.uptoBulkAll ds ≤ 1048576 → Tab W →
      Calls Tryd.prog f args W fun e W' => e = .returned (.bool true) ∧ Below W.heap.size W W') :
    ReturnsInHanded {} Tryd.checked os f .any ((Rows.OpenSpec.upto s).preRow enc Tryd.prog fn [] false laidL) (((Rows.OpenSpec.upto s).at F).post enc Tryd.prog fn false true false false) := by
  refine returnsInHanded_of_row (C := Tryd.checked) (s := Rows.OpenSpec.upto s) ownNone started noInit hfn witness ?_
  intro W base args ds gs before hval hW _ hcond _ hL _ _
  have hW' : DataW.Whole enc Tryd.prog fn.params.toList s.vars false W args.toList ds gs before := hW
  have hW2 := hW'
  obtain ⟨p, q, hA, hV, rfl, hfz, hnd⟩ := hW2
  rw [hv] at hV
  obtain ⟨rfl, rfl⟩ := trodVars_none hV
  have hlen : ∀ {ts : List TypeId} {vs : List Value} {ds : List (DataW H)} {ps : List MemPlace}, DataW.TrodAll enc Tryd.prog W 0 (fun _ => true) true ts vs ds ps → ds.length = ts.length := by
    intro ts
    induction ts with
    | nil => intro vs ds ps h; cases vs <;> cases ds <;> first | rfl | exact h.elim
    | cons t ts ih =>
      intro vs ds ps h
      cases vs with
      | nil => exact h.elim
      | cons v vs =>
        cases ds with
        | nil => exact h.elim
        | cons d ds => obtain ⟨_, _, _, h2, _⟩ := h; simp [ih h2]
  have hbulk : Rows.uptoBulkAll ds ≤ 1048576 := by
    have hk : Rows.uptoSmall H (ds ++ []) = true := hcond Rows.uptoSmall rfl
    rw [List.append_nil] at hk
    exact of_decide_eq_true hk
  refine (walk W base args ds p hval hA hbulk (tab_of hL)).mono fun e W' ⟨he, hb⟩ => ?_
  subst he
  exact ⟨_, rfl, law_post (s := s) laidOut hr hres Tryd.underlying4 hv (hs ds (by rw [hlen hA]; simp)) hW' hb⟩
end Go.Proofs.YtfcaebceklhbkaaDoor
