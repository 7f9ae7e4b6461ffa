/-
  The builder of this seat's claims: bulk, the tables and sentinels, the row's step.
-/
import Derived.Test.YtdmhlhoimaeacaaDoorRows
import Derived.Test.YtdmhlhoimaeacaaDoorCards
import Derived.Test.YtdmhlhoimaeacaaDoorTie
import Derived.ProofKit
import Derived.OpenShut
import Derived.Deep.DeepHandedRow
import Derived.Lib.LaidTab
import Derived.Lib.AppendIntMem
import Derived.ChangeOld
import Derived.Carry
import Derived.Deep.Slices
import Derived.Stop.LaidErr
import Derived.Test.YtdmhlhoimaeacaaDoorS1
/-
  FOR A PROOF OF AN '..UptoSaid': WHAT THE BOUND GIVES. Copy it as <Name>Bulk.lean (put your seat's Name for YtdmhlhoimaeacaaDoor, the bound of 'uptoSmall' for 1048576), name it in GOCLAIM.json's 'order' behind <Name>Rows. By an AI agent, Sun Nov 15 2026. No person has read it. No macro, syntax, notation, axiom, sorry.
-/
namespace Go.Proofs.YtdmhlhoimaeacaaDoor.bulks

theorem one_le {H : Type} (d : DataW H) : 1 ≤ Rows.uptoBulk d := by
  cases d with
  | lit l => cases l <;> simp [Rows.uptoBulk]
  | nil => simp [Rows.uptoBulk]
  | ptr d => simp [Rows.uptoBulk]
  | slice elems spare => simp [Rows.uptoBulk]
  | agg parts => simp [Rows.uptoBulk]
  | iface t d => simp [Rows.uptoBulk]
  | map entries => simp [Rows.uptoBulk]
  | held h => simp [Rows.uptoBulk]

/-- a part's bulk is at most the whole's -/
theorem part_le {H : Type} {d : DataW H} {l : List (DataW H)} (h : d ∈ l) : Rows.uptoBulk d ≤ Rows.uptoBulkAll l := by
  induction l with
  | nil => cases h
  | cons x r ih =>
    simp only [Rows.uptoBulkAll]
    cases List.mem_cons.1 h with
    | inl e => subst e; omega
    | inr e => have := ih e; omega

theorem append {H : Type} (l r : List (DataW H)) : Rows.uptoBulkAll (l ++ r) = Rows.uptoBulkAll l + Rows.uptoBulkAll r := by
  induction l with
  | nil => simp [Rows.uptoBulkAll]
  | cons x l ih => simp only [List.cons_append, Rows.uptoBulkAll, ih]; omega

/-- so many values at the most -/
theorem length_le {H : Type} (l : List (DataW H)) : l.length ≤ Rows.uptoBulkAll l := by
  induction l with
  | nil => simp [Rows.uptoBulkAll]
  | cons x r ih => have := one_le x; simp only [Rows.uptoBulkAll, List.length_cons]; omega

/-- a slice's places, and what they hold -/
theorem slice_le {H : Type} (elems spare : List (DataW H)) : elems.length + spare.length + 1 ≤ Rows.uptoBulk (.slice elems spare) := by
  have h1 := length_le elems
  have h2 := length_le spare
  simp only [Rows.uptoBulk]
  omega
theorem slice_elems {H : Type} (elems spare : List (DataW H)) : Rows.uptoBulkAll elems + 1 ≤ Rows.uptoBulk (.slice elems spare) := by
  simp only [Rows.uptoBulk]
  omega

/-- a string's letters -/
theorem string_eq {H : Type} (bytes : List UInt8) : Rows.uptoBulk (DataW.lit (H := H) (.string bytes)) = bytes.length + 1 := by
  simp [Rows.uptoBulk]

/-- THE BOUND, as the builder hands it over ('hk') -/
theorem bound {H : Type} {l : List (DataW H)} (hk : Rows.uptoSmall H l = true) : Rows.uptoBulkAll l ≤ 1048576 := by
  simpa [Rows.uptoSmall] using hk

/-- ROOM: a slice of n elements of b bytes, grown by append: below the 2^48 bytes that append, make and a Builder bear. Here n up to 2^21, b up to 4,096: put your own numbers. -/
theorem room {n b : Nat} (hn : n ≤ 2097152) (hb : b ≤ 4096) : (n + n / 4 + 192) * b ≤ 281474976710656 := by
  have h : (n + n / 4 + 192) * b ≤ 2621632 * 4096 := Nat.mul_le_mul (by omega) hb
  omega

end Go.Proofs.YtdmhlhoimaeacaaDoor.bulks

/-
  The builder for this seat's laws: a row that lists tables and bounds its arguments' bulk, over a walk of one goroutine.
-/
namespace Go.Proofs.YtdmhlhoimaeacaaDoor
open Go.ChangeShapes Go.WideShapes Go.ChangeAt Go.RowKit
set_option linter.unusedVariables false

section
variable {H : Type} {enc : TypeId × Value → H}

/-- Arguments of whatever types read behind the call as before it, where nothing below the heap's old size has turned. -/
theorem below_trodAll {P : Program} (hl : laidOutB P = true) {W W' : World} (hb : Below W.heap.size W W') : ∀ {ts : List TypeId} {vs : List Value} {ds : List (DataW H)} {ps : List MemPlace},
    (∀ t ∈ ts, P.readableRec t = true ∧ t < P.types.size) → DataW.TrodAll enc P W 0 (fun _ => true) true ts vs ds ps → (∀ x ∈ ps, x.block < W.heap.size) → DataW.TrodAll enc P W' 0 (fun b => decide (b < W.heap.size)) true ts vs ds ps
  | [], [], [], ps, _, h, _ => h
  | t :: ts, v :: vs, d :: ds, ps, hr, h, hlt => by
    obtain ⟨p, q, h1, h2, rfl⟩ := h
    exact ⟨p, q, Below.trod hl (hr t (by simp)).1 (hr t (by simp)).2 h1 hb (fun x hx => hlt x (by simp [hx])), below_trodAll hl hb (fun t ht => hr t (by simp [ht])) h2 (fun x hx => hlt x (by simp [hx])), rfl⟩
  | [], _ :: _, _, _, _, h, _ => h.elim
  | [], [], _ :: _, _, _, h, _ => h.elim
  | _ :: _, [], _, _, _, h, _ => h.elim
  | _ :: _, _ :: _, [], _, _, h, _ => h.elim

/-- What a law's call leaves: true; each argument as it was. -/
theorem law_post {P : Program} {fn : Func} {s : ChangeSpec} {apart fresh handsOn : Bool} {W W' : World} {args : Array Value} {ds gs : List (DataW H)} {before : List MemPlace} {tb : TypeId}
    (hl : laidOutB P = true) (hr : ∀ t ∈ fn.params.toList, P.readableRec t = true ∧ t < P.types.size) (hres : fn.resultTypes = #[tb]) (htb : P.underlying tb = some .bool) (hv : s.vars = [])
    (hs : s.fn H ds = { results := [.lit (.bool true)], args := ds }) (hW : DataW.Whole enc P fn.params.toList s.vars apart W args.toList ds gs before) (hb : Below W.heap.size W W') :
    s.post enc P fn apart fresh handsOn false W args (.bool true) W' := by
  have hW' := hW
  obtain ⟨p, q, hA, hV, rfl, hfz, hnd⟩ := hW
  rw [hv] at hV
  obtain ⟨rfl, rfl⟩ := trodVars_none hV
  have hlt := DataW.TrodAll.lt hA
  have hsp : (s.fn H (ds ++ [])) = { results := [.lit (.bool true)], args := ds } := by rw [List.append_nil]; exact hs
  refine ⟨ds, [], p ++ [], [], p, [], hW', ?_, ?_, ?_, hb.frame _, fun h => by cases h⟩
  · rw [hsp, hres]
    exact trodAll_mk1 (shut_bool htb _)
  · rw [hsp]
    exact below_trodAll hl hb hr hA hlt
  · rw [hsp, hv]
    rfl

end

theorem laidOut : laidOutB Tryd.prog = true := by kernel_rfl
theorem ownNone : ownKnob Tryd.prog.godebug = none := by kernel_rfl
theorem gPow : Tryd.prog.globalNamed "internal/strconv.uint64pow10" = some 1 := by kernel_rfl
theorem gRange : Tryd.prog.globalNamed "strconv.ErrRange" = some 5 := by kernel_rfl
theorem cells169 : Tryd.prog.cellsOf 169 = 1 := by kernel_rfl
theorem cells9 : Tryd.prog.cellsOf 9 = 1 := by kernel_rfl
theorem star : "*" ++ "errors.errorString" = "*errors.errorString" := by decide
theorem row167 (u : TypeId) (h : Tryd.prog.typeName? 3 u = some "*errors.errorString") : u = 167 :=
  typeName_ptr_named (nm := "errors.errorString") (by rw [star]; kernel_rfl) (by kernel_rfl) (by decide) u (by rw [star]; exact h)
abbrev laidL : List (String × DataW Unit) := [("math/bits.deBruijn32tab", Rows.laid_math_bits_deBruijn32tab), ("math/bits.deBruijn64tab", Rows.laid_math_bits_deBruijn64tab), ("internal/strconv.uint64pow10", Rows.laid_internal_strconv_uint64pow10), ("strconv.ErrRange", Rows.laid_strconv_ErrRange), ("strconv.ErrSyntax", Rows.laid_strconv_ErrSyntax)]
theorem laid_plain {W : World} (h : laidMetH Tryd.prog laidL W) : laidMet Tryd.prog laidL W := h

theorem tab_of {W : World} (h : laidMetH Tryd.prog laidL W) : ∀ W', Below W.heap.size W W' → Lib.TabIs Tryd.prog W' "internal/strconv.uint64pow10" .u64 Lib.pow10Tab := by
  refine Lib.tabBelow_of_tabIs ?_
  obtain ⟨ps, ⟨g0, t0, cs0, f0, p0, q0, _, _, _, _, ⟨g1, t1, cs1, f1, p1, q1, _, _, _, _, ⟨g2, t2, cs2, f2, p2, q2, hg, ht, hvar, hd, _, _⟩, _⟩, _⟩, _⟩ := laid_plain h
  obtain rfl := Option.some.inj (gPow.symm.trans hg)
  obtain rfl := Option.some.inj ((show (Tryd.prog.globals[1]?).map (·.type) = some 144 by kernel_rfl).symm.trans ht)
  have e : Rows.laid_internal_strconv_uint64pow10 (H := Unit) = Lib.tabData .u64 Lib.pow10Tab := rfl
  rw [e] at hd
  unfold Lib.TabIs
  rw [hvar, ← Lib.cells_of_tab Tryd.underlying144 Tryd.underlying132 (by kernel_rfl) (by kernel_rfl) hd]
theorem rng_of {W : World} (h : laidMetH Tryd.prog laidL W) : ∃ t p, W.cell? ⟨5, 0, none⟩ = some (.iface t p) := by
  obtain ⟨a1, s1, hv1, _⟩ := laid_sentinel (laid_plain h).tail.tail.tail gRange (by kernel_rfl) Tryd.underlying88 row167 Tryd.underlying167 Tryd.underlying169 rfl rfl Tryd.underlying9 cells169 cells9
  exact ⟨167, _, by simpa using World.var?_cell gRange hv1 0⟩
theorem row0 : (((begin Tryd.prog (fun _ _ => 0) default).world.heap[0]?).bind Obj.row?) = some (#[.int .i64 0], 3) := by kernel_rfl
theorem row5 : (((begin Tryd.prog (fun _ _ => 0) default).world.heap[5]?).bind Obj.row?) = some (#[.nilIface], 88) := by kernel_rfl
theorem six : Tryd.prog.globals.size = 6 := by kernel_rfl
theorem build3 : Tryd.prog.buildable 3 = true := by kernel_rfl
theorem cellT3 : Tryd.prog.cellTypes Tryd.prog.depth 3 = some [3] := by kernel_rfl
theorem one_arr {cs : Array Value} (h : cs.size = 1) : ∃ v, cs = #[v] := by
  obtain ⟨l⟩ := cs
  match l, h with
  | [v], _ => exact ⟨v, rfl⟩
set_option maxRecDepth 100000 in
theorem one_int {W : World} {v : Value} {r : Reach} (hv : Cell.ok Tryd.prog W r 0 3 v) : ∃ m, v = .int .i64 m := by
  have h : Value.ok Tryd.prog W r 0 3 v := by
    unfold Value.ok
    rw [Tryd.underlying3]
    exact hv
  obtain ⟨m, hm, _⟩ := Value.ok_int Tryd.underlying3 h
  exact ⟨m, hm⟩
set_option maxRecDepth 100000 in
theorem len_of {W : World} (hS : W.ShapedOpen Tryd.prog) : ∃ m, W.cell? ⟨0, 0, none⟩ = some (.int .i64 m) := by
  obtain ⟨cs, hc, hz, hok⟩ := hS.1 0 #[.int .i64 0] 3 (by rw [six]; decide) row0
  obtain ⟨ts, h1, h2, h3⟩ := hok build3
  rw [cellT3] at h1
  injection h1 with h1
  subst h1
  obtain ⟨v, rfl⟩ := one_arr hz
  obtain ⟨u, hu, hv⟩ := h3 0 v rfl
  have hu' : 3 = u := Option.some.inj hu
  subst hu'
  obtain ⟨m, rfl⟩ := one_int hv
  exact ⟨m, by rw [cell_of hc]; rfl⟩
set_option maxRecDepth 100000 in
theorem low_of {W : World} (hS : W.ShapedOpen Tryd.prog) : 6 ≤ W.heap.size := by
  obtain ⟨cs, hc, _⟩ := hS.1 5 #[.nilIface] 88 (by rw [six]; decide) row5
  exact (Array.getElem?_eq_some_iff.1 hc).1
theorem env_of {W : World} (h : laidMetH Tryd.prog laidL W) (hS : W.ShapedOpen Tryd.prog) : Env W.heap.size W := ⟨tab_of h, rng_of h, len_of hS, low_of hS, Nat.le_refl _⟩

/-- A table's numbers as the heap holds them. -/
def tabVals : DataW Unit → Array Value
  | .agg l => (l.map fun | .lit x => x.value | _ => undef).toArray
  | _ => #[]
def setTab (d : DataW Unit) : Obj → Obj
  | .cells _ t frozen => .cells (tabVals d) t frozen
  | o => o
def setErr (b : Nat) : Obj → Obj
  | .cells _ t frozen => .cells #[.iface 167 (.pointer (some ⟨b, 0, none⟩))] t frozen
  | o => o
def rangeS : ByteArray := ⟨#[118, 97, 108, 117, 101, 32, 111, 117, 116, 32, 111, 102, 32, 114, 97, 110, 103, 101]⟩
def syntaxS : ByteArray := ⟨#[105, 110, 118, 97, 108, 105, 100, 32, 115, 121, 110, 116, 97, 120]⟩
/-- A world for the witness: the tables and the errors as their initialisers lay them. -/
noncomputable def laidWorld (os : Os) : World :=
  let w := World.holding Tryd.prog os ⟨#[], #[], []⟩
  let n := w.heap.size
  { w with heap := (((((((w.heap.modify 1 (setTab Rows.laid_internal_strconv_uint64pow10)).modify 2 (setTab Rows.laid_math_bits_deBruijn32tab)).modify 3 (setTab Rows.laid_math_bits_deBruijn64tab)).modify 5 (setErr n)).modify 4 (setErr (n + 1))).push (.cells #[.string rangeS] 169)).push (.cells #[.string syntaxS] 169)) }

set_option maxRecDepth 100000 in
/-- A law over the tables, its arguments of bounded bulk: the row's step. -/
theorem law_laid {H : Type} {enc : TypeId × Value → H} {os : Os} {f : FuncId} {fn : Func} {s : ChangeSpec} (F : Stop.Interp) (started : os.Started) (noInit : Tryd.checked.prog.inits.idxOf? f = none) (hfn : Tryd.prog.funcs[f]? = some fn)
    (witness : ∃ (w : World) (tape : Tape) (i : Input), w.os = os ∧ (w.forCall tape i).Shaped Tryd.checked.prog ∧ i.vars = [] ∧ Input.okWide Tryd.checked.prog (w.forCall tape i) .any w.heap.size f i ∧
      (Rows.OpenSpec.upto s).preRow enc Tryd.checked.prog fn [] false laidL (w.forCall tape i).memory i.args ∧ Assume.holds {} Tryd.checked.prog (lone (Frame.enter Tryd.checked.prog f i.args .normal) [] (w.forCall tape i)))
    (hr : ∀ t ∈ fn.params.toList, Tryd.prog.readableRec t = true ∧ t < Tryd.prog.types.size) (hres : fn.resultTypes = #[4]) (hv : s.vars = [])
    (hs : ∀ ds : List (DataW H), ds.length = fn.params.size → s.fn H ds = { results := [.lit (.bool true)], args := ds })
    (walk : ∀ (W : World) (base : Nat) (args : Array Value) (ds : List (DataW H)) (p : List MemPlace),
      (∀ (j : Nat) t v, fn.params[j]? = some t → args[j]? = some v → Value.okWide Tryd.prog W .any base t v) →
      DataW.TrodAll enc Tryd.prog W 0 (fun _ => true) true fn.params.toList args.toList ds p → Rows.uptoBulkAll ds ≤ 1048576 → Env W.heap.size W →
      Calls Tryd.prog f args W fun e W' => e = .returned (.bool true) ∧ Below W.heap.size W W') :
    ReturnsInHanded {} Tryd.checked os f .any ((Rows.OpenSpec.upto s).preRow enc Tryd.prog fn [] false laidL) (((Rows.OpenSpec.upto s).at F).post enc Tryd.prog fn false true false false) := by
  refine returnsInHanded_of_row (C := Tryd.checked) (s := Rows.OpenSpec.upto s) ownNone started noInit hfn witness ?_
  intro W base args ds gs before hval hW _ hcond _ hL hS _
  have hW' : DataW.Whole enc Tryd.prog fn.params.toList s.vars false W args.toList ds gs before := hW
  have hW2 := hW'
  obtain ⟨p, q, hA, hV, rfl, hfz, hnd⟩ := hW2
  rw [hv] at hV
  obtain ⟨rfl, rfl⟩ := trodVars_none hV
  have hlen : ∀ {ts : List TypeId} {vs : List Value} {ds : List (DataW H)} {ps : List MemPlace}, DataW.TrodAll enc Tryd.prog W 0 (fun _ => true) true ts vs ds ps → ds.length = ts.length := by
    intro ts
    induction ts with
    | nil => intro vs ds ps h; cases vs <;> cases ds <;> first | rfl | exact h.elim
    | cons t ts ih =>
      intro vs ds ps h
      cases vs with
      | nil => exact h.elim
      | cons v vs =>
        cases ds with
        | nil => exact h.elim
        | cons d ds => obtain ⟨_, _, _, h2, _⟩ := h; simp [ih h2]
  have hbulk : Rows.uptoBulkAll ds ≤ 1048576 := by
    have hk : Rows.uptoSmall H (ds ++ []) = true := hcond Rows.uptoSmall rfl
    rw [List.append_nil] at hk
    exact of_decide_eq_true hk
  refine (walk W base args ds p hval hA hbulk (env_of hL hS)).mono fun e W' ⟨he, hb⟩ => ?_
  subst he
  exact ⟨_, rfl, law_post (s := s) laidOut hr hres Tryd.underlying4 hv (hs ds (by rw [hlen hA]; simp)) hW' hb⟩
end Go.Proofs.YtdmhlhoimaeacaaDoor
