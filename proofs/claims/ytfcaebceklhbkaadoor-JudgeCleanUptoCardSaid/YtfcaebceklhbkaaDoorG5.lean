/-
  Merged out of: Bulk Law Open Open2 Open3.
-/
import Derived.Test.YtfcaebceklhbkaaDoorRows
import Derived.Test.YtfcaebceklhbkaaDoorFixed
import Derived.Test.YtfcaebceklhbkaaDoorCards
import Derived.Test.YtfcaebceklhbkaaDoorTie
import Derived.ProofKit
import Derived.OpenShut
import Derived.Deep.DeepHandedRow
import Derived.Lib.LaidTab
import Derived.ChangeOld
import Derived.Carry
import Derived.Deep.Slices
import Derived.Test.YtfcaebceklhbkaaDoorG3
/-
  FOR A PROOF OF AN '..UptoSaid': WHAT THE BOUND GIVES. Copy it as <Name>Bulk.lean (put your seat's Name for YtfcaebceklhbkaaDoor, the bound of 'uptoSmall' for 1048576), name it in GOCLAIM.json's 'order' behind <Name>Rows. By an AI agent, Sun Nov 15 2026. No person has read it. No macro, syntax, notation, axiom, sorry.
-/
namespace Go.Proofs.YtfcaebceklhbkaaDoor.bulks

theorem one_le {H : Type} (d : DataW H) : 1 ≤ Rows.uptoBulk d := by
  cases d with
  | lit l => cases l <;> simp [Rows.uptoBulk]
  | nil => simp [Rows.uptoBulk]
  | ptr d => simp [Rows.uptoBulk]
  | slice elems spare => simp [Rows.uptoBulk]
  | agg parts => simp [Rows.uptoBulk]
  | iface t d => simp [Rows.uptoBulk]
  | map entries => simp [Rows.uptoBulk]
  | held h => simp [Rows.uptoBulk]

/-- a part's bulk is at most the whole's -/
theorem part_le {H : Type} {d : DataW H} {l : List (DataW H)} (h : d ∈ l) : Rows.uptoBulk d ≤ Rows.uptoBulkAll l := by
  induction l with
  | nil => cases h
  | cons x r ih =>
    simp only [Rows.uptoBulkAll]
    cases List.mem_cons.1 h with
    | inl e => subst e; omega
    | inr e => have := ih e; omega

theorem append {H : Type} (l r : List (DataW H)) : Rows.uptoBulkAll (l ++ r) = Rows.uptoBulkAll l + Rows.uptoBulkAll r := by
  induction l with
  | nil => simp [Rows.uptoBulkAll]
  | cons x l ih => simp only [List.cons_append, Rows.uptoBulkAll, ih]; omega

/-- so many values at the most -/
theorem length_le {H : Type} (l : List (DataW H)) : l.length ≤ Rows.uptoBulkAll l := by
  induction l with
  | nil => simp [Rows.uptoBulkAll]
  | cons x r ih => have := one_le x; simp only [Rows.uptoBulkAll, List.length_cons]; omega

/-- a slice's places, and what they hold -/
theorem slice_le {H : Type} (elems spare : List (DataW H)) : elems.length + spare.length + 1 ≤ Rows.uptoBulk (.slice elems spare) := by
  have h1 := length_le elems
  have h2 := length_le spare
  simp only [Rows.uptoBulk]
  omega
theorem slice_elems {H : Type} (elems spare : List (DataW H)) : Rows.uptoBulkAll elems + 1 ≤ Rows.uptoBulk (.slice elems spare) := by
  simp only [Rows.uptoBulk]
  omega

/-- a string's letters -/
theorem string_eq {H : Type} (bytes : List UInt8) : Rows.uptoBulk (DataW.lit (H := H) (.string bytes)) = bytes.length + 1 := by
  simp [Rows.uptoBulk]

/-- THE BOUND, as the builder hands it over ('hk') -/
theorem bound {H : Type} {l : List (DataW H)} (hk : Rows.uptoSmall H l = true) : Rows.uptoBulkAll l ≤ 1048576 := by
  simpa [Rows.uptoSmall] using hk

/-- ROOM: a slice of n elements of b bytes, grown by append: below the 2^48 bytes that append, make and a Builder bear. Here n up to 2^21, b up to 4,096: put your own numbers. -/
theorem room {n b : Nat} (hn : n ≤ 2097152) (hb : b ≤ 4096) : (n + n / 4 + 192) * b ≤ 281474976710656 := by
  have h : (n + n / 4 + 192) * b ≤ 2621632 * 4096 := Nat.mul_le_mul (by omega) hb
  omega

end Go.Proofs.YtfcaebceklhbkaaDoor.bulks

/-
  The builder for this seat's laws: a row that lists tables and bounds its arguments' bulk, over a walk of one goroutine.
-/
namespace Go.Proofs.YtfcaebceklhbkaaDoor
open Go.ChangeShapes Go.WideShapes Go.ChangeAt Go.RowKit
set_option linter.unusedVariables false

section
variable {H : Type} {enc : TypeId × Value → H}

/-- Arguments of whatever types read behind the call as before it, where nothing below the heap's old size has turned. -/
theorem below_trodAll {P : Program} (hl : laidOutB P = true) {W W' : World} (hb : Below W.heap.size W W') : ∀ {ts : List TypeId} {vs : List Value} {ds : List (DataW H)} {ps : List MemPlace},
    (∀ t ∈ ts, P.readableRec t = true ∧ t < P.types.size) → DataW.TrodAll enc P W 0 (fun _ => true) true ts vs ds ps → (∀ x ∈ ps, x.block < W.heap.size) → DataW.TrodAll enc P W' 0 (fun b => decide (b < W.heap.size)) true ts vs ds ps
  | [], [], [], ps, _, h, _ => h
  | t :: ts, v :: vs, d :: ds, ps, hr, h, hlt => by
    obtain ⟨p, q, h1, h2, rfl⟩ := h
    exact ⟨p, q, Below.trod hl (hr t (by simp)).1 (hr t (by simp)).2 h1 hb (fun x hx => hlt x (by simp [hx])), below_trodAll hl hb (fun t ht => hr t (by simp [ht])) h2 (fun x hx => hlt x (by simp [hx])), rfl⟩
  | [], _ :: _, _, _, _, h, _ => h.elim
  | [], [], _ :: _, _, _, h, _ => h.elim
  | _ :: _, [], _, _, _, h, _ => h.elim
  | _ :: _, _ :: _, [], _, _, h, _ => h.elim

/-- What a law's call leaves: true; each argument as it was. -/
theorem law_post {P : Program} {fn : Func} {s : ChangeSpec} {apart fresh handsOn : Bool} {W W' : World} {args : Array Value} {ds gs : List (DataW H)} {before : List MemPlace} {tb : TypeId}
    (hl : laidOutB P = true) (hr : ∀ t ∈ fn.params.toList, P.readableRec t = true ∧ t < P.types.size) (hres : fn.resultTypes = #[tb]) (htb : P.underlying tb = some .bool) (hv : s.vars = [])
    (hs : s.fn H ds = { results := [.lit (.bool true)], args := ds }) (hW : DataW.Whole enc P fn.params.toList s.vars apart W args.toList ds gs before) (hb : Below W.heap.size W W') :
    s.post enc P fn apart fresh handsOn false W args (.bool true) W' := by
  have hW' := hW
  obtain ⟨p, q, hA, hV, rfl, hfz, hnd⟩ := hW
  rw [hv] at hV
  obtain ⟨rfl, rfl⟩ := trodVars_none hV
  have hlt := DataW.TrodAll.lt hA
  have hsp : (s.fn H (ds ++ [])) = { results := [.lit (.bool true)], args := ds } := by rw [List.append_nil]; exact hs
  refine ⟨ds, [], p ++ [], [], p, [], hW', ?_, ?_, ?_, hb.frame _, fun h => by cases h⟩
  · rw [hsp, hres]
    exact trodAll_mk1 (shut_bool htb _)
  · rw [hsp]
    exact below_trodAll hl hb hr hA hlt
  · rw [hsp, hv]
    rfl

end

theorem ownNone : ownKnob Tryd.prog.godebug = none := by kernel_rfl
theorem gPow : Tryd.prog.globalNamed "internal/strconv.uint64pow10" = some 0 := by kernel_rfl
abbrev laidL : List (String × DataW Unit) := [("math/bits.deBruijn32tab", Rows.laid_math_bits_deBruijn32tab), ("math/bits.deBruijn64tab", Rows.laid_math_bits_deBruijn64tab), ("internal/strconv.uint64pow10", Rows.laid_internal_strconv_uint64pow10)]

theorem tab_of {W : World} (h : laidMetH Tryd.prog laidL W) : Tab W := by
  refine Lib.tabBelow_of_tabIs ?_
  obtain ⟨ps, ⟨g0, t0, cs0, f0, p0, q0, _, _, _, _, ⟨g1, t1, cs1, f1, p1, q1, _, _, _, _, ⟨g2, t2, cs2, f2, p2, q2, hg, ht, hvar, hd, _, _⟩, _⟩, _⟩, _⟩ := h
  obtain rfl := Option.some.inj (gPow.symm.trans hg)
  obtain rfl := Option.some.inj ((show (Tryd.prog.globals[0]?).map (·.type) = some 170 by kernel_rfl).symm.trans ht)
  have e : Rows.laid_internal_strconv_uint64pow10 (H := Unit) = Lib.tabData .u64 Lib.pow10Tab := rfl
  rw [e] at hd
  unfold Lib.TabIs
  rw [hvar, ← Lib.cells_of_tab Tryd.underlying170 Tryd.underlying139 (by kernel_rfl) (by kernel_rfl) hd]

/-- A table's numbers as the heap holds them. -/
def tabVals : DataW Unit → Array Value
  | .agg l => (l.map fun | .lit x => x.value | _ => undef).toArray
  | _ => #[]
def setTab (d : DataW Unit) : Obj → Obj
  | .cells _ t frozen => .cells (tabVals d) t frozen
  | o => o
/-- A world for the witness: the tables hold what their initialisers lay. -/
noncomputable def laidWorld (os : Os) : World :=
  { World.holding Tryd.prog os ⟨#[], #[], []⟩ with heap := (((World.holding Tryd.prog os ⟨#[], #[], []⟩).heap.modify 0 (setTab Rows.laid_internal_strconv_uint64pow10)).modify 1 (setTab Rows.laid_math_bits_deBruijn32tab)).modify 2 (setTab Rows.laid_math_bits_deBruijn64tab) }

set_option maxRecDepth 100000 in
/-- A law over the tables, its arguments of bounded bulk: the row's step. -/
theorem law_laid {H : Type} {enc : TypeId × Value → H} {os : Os} {f : FuncId} {fn : Func} {s : ChangeSpec} (F : Stop.Interp) (started : os.Started) (noInit : Tryd.checked.prog.inits.idxOf? f = none) (hfn : Tryd.prog.funcs[f]? = some fn)
    (witness : ∃ (w : World) (tape : Tape) (i : Input), w.os = os ∧ (w.forCall tape i).Shaped Tryd.checked.prog ∧ i.vars = [] ∧ Input.okWide Tryd.checked.prog (w.forCall tape i) .any w.heap.size f i ∧
      (Rows.OpenSpec.upto s).preRow enc Tryd.checked.prog fn [] false laidL (w.forCall tape i).memory i.args ∧ Assume.holds {} Tryd.checked.prog (lone (Frame.enter Tryd.checked.prog f i.args .normal) [] (w.forCall tape i)))
    (hr : ∀ t ∈ fn.params.toList, Tryd.prog.readableRec t = true ∧ t < Tryd.prog.types.size) (hres : fn.resultTypes = #[4]) (hv : s.vars = [])
    (hs : ∀ ds : List (DataW H), ds.length = fn.params.size → s.fn H ds = { results := [.lit (.bool true)], args := ds })
    (walk : ∀ (W : World) (base : Nat) (args : Array Value) (ds : List (DataW H)) (p : List MemPlace),
      (∀ (j : Nat) t v, fn.params[j]? = some t → args[j]? = some v → Value.okWide Tryd.prog W .any base t v) →
      DataW.TrodAll enc Tryd.prog W 0 (fun _ => true) true fn.params.toList args.toList ds p → Rows.uptoBulkAll ds ≤ 1048576 → Tab W →
      Calls Tryd.prog f args W fun e W' => e = .returned (.bool true) ∧ Below W.heap.size W W') :
    ReturnsInHanded {} Tryd.checked os f .any ((Rows.OpenSpec.upto s).preRow enc Tryd.prog fn [] false laidL) (((Rows.OpenSpec.upto s).at F).post enc Tryd.prog fn false true false false) := by
  refine returnsInHanded_of_row (C := Tryd.checked) (s := Rows.OpenSpec.upto s) ownNone started noInit hfn witness ?_
  intro W base args ds gs before hval hW _ hcond _ hL _ _
  have hW' : DataW.Whole enc Tryd.prog fn.params.toList s.vars false W args.toList ds gs before := hW
  have hW2 := hW'
  obtain ⟨p, q, hA, hV, rfl, hfz, hnd⟩ := hW2
  rw [hv] at hV
  obtain ⟨rfl, rfl⟩ := trodVars_none hV
  have hlen : ∀ {ts : List TypeId} {vs : List Value} {ds : List (DataW H)} {ps : List MemPlace}, DataW.TrodAll enc Tryd.prog W 0 (fun _ => true) true ts vs ds ps → ds.length = ts.length := by
    intro ts
    induction ts with
    | nil => intro vs ds ps h; cases vs <;> cases ds <;> first | rfl | exact h.elim
    | cons t ts ih =>
      intro vs ds ps h
      cases vs with
      | nil => exact h.elim
      | cons v vs =>
        cases ds with
        | nil => exact h.elim
        | cons d ds => obtain ⟨_, _, _, h2, _⟩ := h; simp [ih h2]
  have hbulk : Rows.uptoBulkAll ds ≤ 1048576 := by
    have hk : Rows.uptoSmall H (ds ++ []) = true := hcond Rows.uptoSmall rfl
    rw [List.append_nil] at hk
    exact of_decide_eq_true hk
  refine (walk W base args ds p hval hA hbulk (tab_of hL)).mono fun e W' ⟨he, hb⟩ => ?_
  subst he
  exact ⟨_, rfl, law_post (s := s) laidOut hr hres Tryd.underlying4 hv (hs ds (by rw [hlen hA]; simp)) hW' hb⟩
end Go.Proofs.YtfcaebceklhbkaaDoor

/-
  The arguments of this seat's laws, opened: slices of structs, of slices of structs; what their bulk bounds. No walk.
-/
namespace Go.Proofs.YtfcaebceklhbkaaDoor
open Go.ChangeShapes Go.WideShapes Go.ChangeAt Go.RowKit Go.Deep
set_option linter.unusedVariables false

section
variable {H : Type} {enc : TypeId × Value → H} {W : World} {held : Bool}

theorem plain_cell {w : World} {x : Addr} {v : Value} {i : Nat} (h : w.cell? (x.add i) = some v) (hs : x.spot = none) : x.add i = ⟨x.block, x.off + i, none⟩ := by
  cases x
  simp at hs
  subst hs
  exact addr_add _ _ _
theorem spot_none {w : World} {x : Addr} {v : Value} (h : w.cell? (x.add 0) = some v) : x.spot = none := by
  cases hx : x.spot with
  | none => rfl
  | some y =>
    unfold World.cell? at h
    split at h
    · simp [Addr.add, hx] at h
    · cases h

/-- A slice of elements of k cells each. -/
theorem open_flat {n : Nat} {t e : TypeId} {k len cap : Nat} {ao : Option Addr} {d : DataW H} {p : List MemPlace} (ht : Tryd.prog.underlying t = some (.slice e)) (hk : Tryd.prog.cellsOf e = k) (hk0 : 0 < k)
    (h : DataW.trod enc Tryd.prog W 0 (fun _ => true) held n t [.slice ao len cap] = some (d, p)) :
    ∃ D : Nat → DataW H, (len = 0 ∨ ∃ g o, ao = some ⟨g, o, none⟩ ∧ ∀ i, i < len → ∃ cs n' p', DataW.trod enc Tryd.prog W 0 (fun _ => true) held n' e cs = some (D i, p') ∧ cs.length = k ∧ ∀ j, j < k → W.cell? ⟨g, o + i * k + j, none⟩ = cs[j]?) ∧
      Rows.uptoBulkAll ((List.range len).map D) + 1 ≤ Rows.uptoBulk d ∧ len ≤ cap ∧ cap ≤ maxLen := by
  rcases open_slice ht h with ⟨hcs, hd⟩ | ⟨a, l, c, m, n', D, Pl, hcs, _, hl, hm, hmm, hd, hx⟩
  · cases hcs
    cases hd
    exact ⟨fun _ => .nil, .inl rfl, by simp [Rows.uptoBulkAll, Rows.uptoBulk], Nat.le_refl _, Nat.zero_le _⟩
  · cases hcs
    simp only [Prod.mk.injEq] at hd
    obtain ⟨rfl, _⟩ := hd
    simp only [if_true] at hmm
    subst hmm
    refine ⟨D, ?_, bulks.slice_elems _ _, hl, hm⟩
    rcases Nat.eq_zero_or_pos len with h0 | h0
    · exact .inl h0
    · right
      have hall : ∀ i, i < len → ∃ cs, DataW.trod enc Tryd.prog W 0 (fun _ => true) held n' e cs = some (D i, Pl i) ∧ cs.length = k ∧ ∀ j, j < k → W.cell? (a.add (i * k + j)) = cs[j]? := by
        intro i hi
        obtain ⟨cs, h1, h2⟩ := hx i (by omega)
        rw [hk] at h1
        obtain ⟨_, hlen, hcell⟩ := World.cells?_some h1
        refine ⟨cs, h2, hlen, fun j hj => ?_⟩
        have := hcell j hj
        rw [add_add] at this
        exact this
      obtain ⟨cs0, _, hl0, hc0⟩ := hall 0 h0
      have hs : a.spot = none := by
        have h1 := hc0 0 hk0
        rw [List.getElem?_eq_getElem (by omega)] at h1
        simp only [Nat.zero_mul, Nat.add_zero] at h1
        exact spot_none h1
      refine ⟨a.block, a.off, by cases a; simp at hs; rw [hs], fun i hi => ?_⟩
      obtain ⟨cs, h1, h2, h3⟩ := hall i hi
      refine ⟨cs, n', _, h1, h2, fun j hj => ?_⟩
      have h4 := h3 j hj
      obtain ⟨v, hv⟩ : ∃ v, cs[j]? = some v := ⟨_, List.getElem?_eq_getElem (by omega)⟩
      rw [hv] at h4 ⊢
      rw [plain_cell h4 hs, ← Nat.add_assoc] at h4
      exact h4

theorem int_one {n : Nat} {t : TypeId} (ht : Tryd.prog.underlying t = some (.int .i64)) {cs : List Value} {y : DataW H × List MemPlace} (h : DataW.trod enc Tryd.prog W 0 (fun _ => true) held n t cs = some y) : ∃ z, cs = [.int .i64 z] ∧ In64 z ∧ Rows.uptoBulk y.1 = 1 := by
  obtain ⟨z, h1, h2, h3⟩ := DataW.trod_int ht h
  refine ⟨z, h1, ?_, by rw [h2]; rfl⟩
  have h0 : IntKind.i64.min = -9223372036854775808 := rfl
  have h4 : IntKind.i64.max = 9223372036854775807 := rfl
  simp only [Lit.wf, Bool.and_eq_true, decide_eq_true_eq] at h3
  unfold In64
  omega

theorem len2 {α : Type} {l : List α} (h : l.length = 2) : ∃ a b, l = [a, b] := by
  match l, h with
  | [a, b], _ => exact ⟨a, b, rfl⟩
theorem len3 {α : Type} {l : List α} (h : l.length = 3) : ∃ a b c, l = [a, b, c] := by
  match l, h with
  | [a, b, c], _ => exact ⟨a, b, c, rfl⟩
theorem len4 {α : Type} {l : List α} (h : l.length = 4) : ∃ a b c d, l = [a, b, c, d] := by
  match l, h with
  | [a, b, c, d], _ => exact ⟨a, b, c, d, rfl⟩
/-- An item's three cells. -/
theorem item_one {n : Nat} {cs : List Value} {y : DataW H × List MemPlace} (h : DataW.trod enc Tryd.prog W 0 (fun _ => true) held n 73 cs = some y) : ∃ a b d, cs = [.int .i64 a, .int .i64 b, .int .i64 d] ∧ In64 a ∧ In64 b ∧ In64 d ∧ 4 ≤ Rows.uptoBulk y.1 := by
  obtain ⟨xs, m, _, hy, hl, hxl, hf⟩ := DataW.trod_struct Tryd.underlying73 h
  rw [cells_item] at hl
  have hxl' : xs.length = 3 := hxl
  obtain ⟨v0, v1, v2, rfl⟩ := len3 hl
  obtain ⟨x0, x1, x2, rfl⟩ := len3 hxl'
  have g0 : DataW.trod enc Tryd.prog W 0 (fun _ => true) held m 3 (([v0, v1, v2].drop 0).take (Tryd.prog.cellsOf 3)) = some x0 := hf 0 _ rfl
  have g1 : DataW.trod enc Tryd.prog W 0 (fun _ => true) held m 3 (([v0, v1, v2].drop 1).take (Tryd.prog.cellsOf 3)) = some x1 := hf 1 _ rfl
  have g2 : DataW.trod enc Tryd.prog W 0 (fun _ => true) held m 2 (([v0, v1, v2].drop 2).take (Tryd.prog.cellsOf 2)) = some x2 := hf 2 _ rfl
  rw [cells3] at g0 g1
  rw [cells2] at g2
  obtain ⟨a, e0, w0, b0⟩ := int_one Tryd.underlying3 (y := x0) g0
  obtain ⟨b, e1, w1, b1⟩ := int_one Tryd.underlying3 (y := x1) g1
  obtain ⟨c, e2, w2, b2⟩ := int_one Tryd.underlying2 (y := x2) g2
  simp at e0 e1 e2
  subst e0 e1 e2
  refine ⟨a, b, c, rfl, w0, w1, w2, ?_⟩
  rw [hy]
  simp only [List.map_cons, List.map_nil, Rows.uptoBulk, Rows.uptoBulkAll, b0, b1, b2]
  omega
theorem cells75 : Tryd.prog.cellsOf 75 = 4 := by kernel_rfl
theorem seen_one {n : Nat} {cs : List Value} {y : DataW H × List MemPlace} (h : DataW.trod enc Tryd.prog W 0 (fun _ => true) held n 75 cs = some y) : ∃ q a b d, cs = [.int .i64 q, .int .i64 a, .int .i64 b, .int .i64 d] ∧ In64 q ∧ In64 a ∧ In64 b ∧ In64 d ∧ 6 ≤ Rows.uptoBulk y.1 := by
  obtain ⟨xs, m, _, hy, hl, hxl, hf⟩ := DataW.trod_struct Tryd.underlying75 h
  rw [cells75] at hl
  have hxl' : xs.length = 2 := hxl
  obtain ⟨v0, v1, v2, v3, rfl⟩ := len4 hl
  obtain ⟨x0, x1, rfl⟩ := len2 hxl'
  have g0 : DataW.trod enc Tryd.prog W 0 (fun _ => true) held m 2 (([v0, v1, v2, v3].drop 0).take (Tryd.prog.cellsOf 2)) = some x0 := hf 0 _ rfl
  have g1 : DataW.trod enc Tryd.prog W 0 (fun _ => true) held m 73 (([v0, v1, v2, v3].drop 1).take (Tryd.prog.cellsOf 73)) = some x1 := hf 1 _ rfl
  rw [cells2] at g0
  rw [cells_item] at g1
  obtain ⟨q, e0, w0, b0⟩ := int_one Tryd.underlying2 (y := x0) g0
  obtain ⟨a, b, d, e1, w1, w2, w3, b1⟩ := item_one (y := x1) g1
  simp at e0 e1
  obtain ⟨e1, e2, e3⟩ := e1
  subst e0 e1 e2 e3
  refine ⟨q, a, b, d, rfl, w0, w1, w2, w3, ?_⟩
  rw [hy]
  simp only [List.map_cons, List.map_nil, Rows.uptoBulk, Rows.uptoBulkAll, b0]
  omega

theorem bulk_each {k : Nat} {D : Nat → DataW H} : ∀ {n : Nat}, (∀ i, i < n → k ≤ Rows.uptoBulk (D i)) → n * k ≤ Rows.uptoBulkAll ((List.range n).map D)
  | 0, _ => by simp
  | n + 1, h => by
    have h1 := bulk_each (n := n) (fun i hi => h i (by omega))
    have h2 := h n (by omega)
    rw [List.range_succ, List.map_append, bulks.append]
    simp only [List.map_cons, List.map_nil, Rows.uptoBulkAll]
    rw [Nat.add_mul]
    omega

/-- A slice of items. -/
theorem open_items {n len cap : Nat} {ao : Option Addr} {d : DataW H} {p : List MemPlace} (h : DataW.trod enc Tryd.prog W 0 (fun _ => true) held n 55 [.slice ao len cap] = some (d, p)) :
    ∃ T : List Itm, T.length = len ∧ ItemRow W ao T ∧ Small3 T ∧ 4 * len + 1 ≤ Rows.uptoBulk d := by
  obtain ⟨D, hrow, hbk, _, _⟩ := open_flat Tryd.underlying55 cells_item (by omega) h
  rcases hrow with rfl | ⟨g, o, rfl, hrow⟩
  · refine ⟨[], rfl, .inl rfl, fun i hi => by simp at hi, ?_⟩
    have := bulks.one_le d
    omega
  · have each : ∀ i, i < len → ∃ t : Itm, (W.cell? ⟨g, o + i * 3, none⟩ = some (.int .i64 t.a) ∧ W.cell? ⟨g, o + i * 3 + 1, none⟩ = some (.int .i64 t.b) ∧ W.cell? ⟨g, o + i * 3 + 2, none⟩ = some (.int .i64 t.d)) ∧ (In64 t.a ∧ In64 t.b ∧ In64 t.d) ∧ 4 ≤ Rows.uptoBulk (D i) := by
      intro i hi
      obtain ⟨cs, n', p', h1, _, h2⟩ := hrow i hi
      obtain ⟨a, b, d, rfl, w0, w1, w2, hb⟩ := item_one h1
      exact ⟨⟨a, b, d⟩, ⟨h2 0 (by omega), h2 1 (by omega), h2 2 (by omega)⟩, ⟨w0, w1, w2⟩, hb⟩
    obtain ⟨f, hf⟩ := choose_lt (α := Itm) each
    have hg : ∀ i, i < len → ((List.range len).map f).getD i default = f i := fun i hi => by simp [List.getD, hi]
    refine ⟨(List.range len).map f, by simp, .inr ⟨g, o, rfl, fun i hi => ?_⟩, fun i hi => ?_, ?_⟩
    · have hi' : i < len := by simpa using hi
      rw [hg i hi']
      exact (hf i hi').1
    · have hi' : i < len := by simpa using hi
      rw [hg i hi']
      exact (hf i hi').2.1
    · have := bulk_each (k := 4) (D := D) (n := len) (fun i hi => (hf i hi).2.2)
      omega
/-- A slice of what was seen. -/
theorem open_seen {n len cap : Nat} {ao : Option Addr} {d : DataW H} {p : List MemPlace} (h : DataW.trod enc Tryd.prog W 0 (fun _ => true) held n 56 [.slice ao len cap] = some (d, p)) :
    ∃ S : List Seen4, S.length = len ∧ SeenRow W ao S ∧ Small4 S ∧ 6 * len + 1 ≤ Rows.uptoBulk d := by
  obtain ⟨D, hrow, hbk, _, _⟩ := open_flat Tryd.underlying56 cells75 (by omega) h
  rcases hrow with rfl | ⟨g, o, rfl, hrow⟩
  · refine ⟨[], rfl, .inl rfl, fun i hi => by simp at hi, ?_⟩
    have := bulks.one_le d
    omega
  · have each : ∀ i, i < len → ∃ t : Seen4, (W.cell? ⟨g, o + i * 4, none⟩ = some (.int .i64 t.q) ∧ W.cell? ⟨g, o + i * 4 + 1, none⟩ = some (.int .i64 t.a) ∧ W.cell? ⟨g, o + i * 4 + 2, none⟩ = some (.int .i64 t.b) ∧ W.cell? ⟨g, o + i * 4 + 3, none⟩ = some (.int .i64 t.d)) ∧ (In64 t.q ∧ In64 t.a ∧ In64 t.b ∧ In64 t.d) ∧ 6 ≤ Rows.uptoBulk (D i) := by
      intro i hi
      obtain ⟨cs, n', p', h1, _, h2⟩ := hrow i hi
      obtain ⟨q, a, b, d, rfl, w0, w1, w2, w3, hb⟩ := seen_one h1
      exact ⟨⟨q, a, b, d⟩, ⟨h2 0 (by omega), h2 1 (by omega), h2 2 (by omega), h2 3 (by omega)⟩, ⟨w0, w1, w2, w3⟩, hb⟩
    obtain ⟨f, hf⟩ := choose_lt (α := Seen4) each
    have hg : ∀ i, i < len → ((List.range len).map f).getD i default = f i := fun i hi => by simp [List.getD, hi]
    refine ⟨(List.range len).map f, by simp, .inr ⟨g, o, rfl, fun i hi => ?_⟩, fun i hi => ?_, ?_⟩
    · have hi' : i < len := by simpa using hi
      rw [hg i hi']
      exact (hf i hi').1
    · have hi' : i < len := by simpa using hi
      rw [hg i hi']
      exact (hf i hi').2.1
    · have := bulk_each (k := 6) (D := D) (n := len) (fun i hi => (hf i hi).2.2)
      omega
theorem cells56 : Tryd.prog.cellsOf 56 = 1 := by kernel_rfl
theorem bulk_tot {D : Nat → DataW H} {R : Nat → List Seen4} : ∀ {n : Nat}, (∀ i, i < n → 6 * (R i).length + 1 ≤ Rows.uptoBulk (D i)) → 6 * tot R n + n ≤ Rows.uptoBulkAll ((List.range n).map D)
  | 0, _ => by simp [tot]
  | n + 1, h => by
    have h1 := bulk_tot (n := n) (fun i hi => h i (by omega))
    have h2 := h n (by omega)
    rw [List.range_succ, List.map_append, bulks.append]
    simp only [List.map_cons, List.map_nil, Rows.uptoBulkAll, tot]
    omega
/-- Readers. -/
theorem open_readers {n len cap : Nat} {ao : Option Addr} {d : DataW H} {p : List MemPlace} (h : DataW.trod enc Tryd.prog W 0 (fun _ => true) held n 54 [.slice ao len cap] = some (d, p)) :
    ∃ A C R, Readers W ao len A C R ∧ 6 * tot R len + len + 1 ≤ Rows.uptoBulk d := by
  obtain ⟨D, hrow, hbk, _, _⟩ := open_flat Tryd.underlying54 cells56 (by omega) h
  rcases hrow with rfl | ⟨g, o, rfl, hrow⟩
  · refine ⟨fun _ => none, fun _ => 0, fun _ => [], ⟨.inl rfl, fun r hr => by omega⟩, ?_⟩
    have := bulks.one_le d
    simp [tot]
    omega
  · have each : ∀ r, r < len → ∃ y : Option Addr × Nat × List Seen4, W.cell? ⟨g, o + r, none⟩ = some (.slice y.1 y.2.2.length y.2.1) ∧ (SeenRow W y.1 y.2.2 ∧ Small4 y.2.2) ∧ 6 * y.2.2.length + 1 ≤ Rows.uptoBulk (D r) := by
      intro r hr
      obtain ⟨cs, n', p', h1, hl, h2⟩ := hrow r hr
      obtain ⟨a, l, c, rfl⟩ : ∃ a l c, cs = [.slice a l c] := by
        rcases open_slice Tryd.underlying56 h1 with ⟨e, _⟩ | ⟨a, l, c, _, _, _, _, e, _⟩
        · exact ⟨_, _, _, e⟩
        · exact ⟨_, _, _, e⟩
      obtain ⟨S, rfl, h3, h4, h5⟩ := open_seen h1
      have := h2 0 (by omega)
      simp only [Nat.mul_one, Nat.add_zero] at this
      exact ⟨(a, c, S), this, ⟨h3, h4⟩, h5⟩
    obtain ⟨f, hf⟩ := choose_lt each
    refine ⟨fun r => (f r).1, fun r => (f r).2.1, fun r => (f r).2.2, ⟨.inr ⟨g, o, rfl, fun r hr => (hf r hr).1⟩, fun r hr => (hf r hr).2.1⟩, ?_⟩
    have := bulk_tot (D := D) (R := fun r => (f r).2.2) (n := len) (fun i hi => (hf i hi).2.2)
    omega
end
end Go.Proofs.YtfcaebceklhbkaaDoor

/-
  More arguments of this seat's laws, opened: numbers, operations, calls.
-/
namespace Go.Proofs.YtfcaebceklhbkaaDoor
open Go.ChangeShapes Go.WideShapes Go.ChangeAt Go.RowKit Go.Deep
set_option linter.unusedVariables false

section
variable {H : Type} {enc : TypeId × Value → H} {W : World} {held : Bool}

theorem nil_cap {n : Nat} {t e : TypeId} {len cap : Nat} {ao : Option Addr} {d : DataW H} {p : List MemPlace} (ht : Tryd.prog.underlying t = some (.slice e))
    (h : DataW.trod enc Tryd.prog W 0 (fun _ => true) held n t [.slice ao len cap] = some (d, p)) : (ao = none → len = 0 ∧ cap = 0) ∧ len ≤ 9223372036854775807 := by
  rcases open_slice ht h with ⟨hcs, hd⟩ | ⟨a, l, c, m, n', D, Pl, hcs, _, hl, hm, hmm, hd, hx⟩
  · cases hcs; exact ⟨fun _ => ⟨rfl, rfl⟩, by omega⟩
  · cases hcs; exact ⟨(fun h => by cases h), by unfold maxLen at hm; omega⟩

/-- A slice of numbers. -/
theorem open_nums {n : Nat} {t e : TypeId} {len cap : Nat} {ao : Option Addr} {d : DataW H} {p : List MemPlace} (ht : Tryd.prog.underlying t = some (.slice e)) (he : Tryd.prog.underlying e = some (.int .i64)) (hc : Tryd.prog.cellsOf e = 1)
    (h : DataW.trod enc Tryd.prog W 0 (fun _ => true) held n t [.slice ao len cap] = some (d, p)) :
    ∃ l : List Int, l.length = len ∧ Nums W (.slice ao len cap) l ∧ SrcOf W 1 (.slice ao len cap) l.length (numV l) ∧ (∀ x ∈ l, In64 x) ∧ len + 1 ≤ Rows.uptoBulk d := by
  obtain ⟨hnil, hmax⟩ := nil_cap ht h
  obtain ⟨D, hrow, hbk, _, _⟩ := open_flat ht hc (by omega) h
  rcases hrow with rfl | ⟨g, o, rfl, hrow⟩
  · refine ⟨[], rfl, ⟨ao, cap, rfl, .inl rfl⟩, ⟨rfl, fun u hu => by simp [numV] at hu, ?_⟩, by simp, ?_⟩
    · cases ao with
      | none => obtain ⟨_, rfl⟩ := hnil rfl; exact .inl ⟨rfl, rfl⟩
      | some a => exact .inr ⟨a, cap, rfl, fun j u hj => by simp [numV] at hj⟩
    · have := bulks.one_le d
      omega
  · have each : ∀ i, i < len → ∃ z : Int, W.cell? ⟨g, o + i, none⟩ = some (.int .i64 z) ∧ In64 z ∧ 1 ≤ Rows.uptoBulk (D i) := by
      intro i hi
      obtain ⟨cs, n', p', h1, _, h2⟩ := hrow i hi
      obtain ⟨z, rfl, w0, hb⟩ := int_one (y := (D i, p')) he h1
      have := h2 0 (by omega)
      simp at this
      exact ⟨z, this, w0, by simp at hb; omega⟩
    obtain ⟨f, hf⟩ := choose_lt (α := Int) each
    have hg : ∀ i, i < len → ((List.range len).map f).getD i 0 = f i := fun i hi => by simp [List.getD, hi]
    have hlen : ((List.range len).map f).length = len := by simp
    have hN : Nums W (.slice (some ⟨g, o, none⟩) len cap) ((List.range len).map f) := ⟨_, cap, by rw [hlen], .inr ⟨g, o, rfl, fun i hi => by rw [hg i (by omega)]; exact (hf i (by omega)).1⟩⟩
    refine ⟨(List.range len).map f, hlen, hN, ?_, fun x hx => ?_, ?_⟩
    · have := nums_src (ad := ⟨g, o, none⟩) (c := cap) (l := (List.range len).map f) (by rw [hlen]; exact hN)
      rw [hlen] at this ⊢
      exact this
    · obtain ⟨i, hi, rfl⟩ := List.mem_map.1 hx
      exact (hf i (by simpa using hi)).2.1
    · have := bulk_each (k := 1) (D := D) (n := len) (fun i hi => (hf i hi).2.2)
      omega

theorem cells31 : Tryd.prog.cellsOf 31 = 4 := by kernel_rfl
theorem op_one {n : Nat} {cs : List Value} {y : DataW H × List MemPlace} (h : DataW.trod enc Tryd.prog W 0 (fun _ => true) held n 31 cs = some y) : ∃ q a b d, cs = [.int .i64 q, .int .i64 a, .int .i64 b, .int .i64 d] ∧ In64 q ∧ In64 a ∧ In64 b ∧ In64 d ∧ 5 ≤ Rows.uptoBulk y.1 := by
  obtain ⟨xs, m, _, hy, hl, hxl, hf⟩ := DataW.trod_struct Tryd.underlying31 h
  rw [cells31] at hl
  have hxl' : xs.length = 4 := hxl
  obtain ⟨v0, v1, v2, v3, rfl⟩ := len4 hl
  obtain ⟨x0, x1, x2, x3, rfl⟩ := len4 hxl'
  have g0 : DataW.trod enc Tryd.prog W 0 (fun _ => true) held m 3 (([v0, v1, v2, v3].drop 0).take (Tryd.prog.cellsOf 3)) = some x0 := hf 0 _ rfl
  have g1 : DataW.trod enc Tryd.prog W 0 (fun _ => true) held m 2 (([v0, v1, v2, v3].drop 1).take (Tryd.prog.cellsOf 2)) = some x1 := hf 1 _ rfl
  have g2 : DataW.trod enc Tryd.prog W 0 (fun _ => true) held m 2 (([v0, v1, v2, v3].drop 2).take (Tryd.prog.cellsOf 2)) = some x2 := hf 2 _ rfl
  have g3 : DataW.trod enc Tryd.prog W 0 (fun _ => true) held m 2 (([v0, v1, v2, v3].drop 3).take (Tryd.prog.cellsOf 2)) = some x3 := hf 3 _ rfl
  rw [cells2] at g1 g2 g3
  rw [cells3] at g0
  obtain ⟨q, e0, w0, b0⟩ := int_one Tryd.underlying3 (y := x0) g0
  obtain ⟨a, e1, w1, b1⟩ := int_one Tryd.underlying2 (y := x1) g1
  obtain ⟨b, e2, w2, b2⟩ := int_one Tryd.underlying2 (y := x2) g2
  obtain ⟨d, e3, w3, b3⟩ := int_one Tryd.underlying2 (y := x3) g3
  simp at e0 e1 e2 e3
  subst e0 e1 e2 e3
  refine ⟨q, a, b, d, rfl, w0, w1, w2, w3, ?_⟩
  rw [hy]
  simp only [List.map_cons, List.map_nil, Rows.uptoBulk, Rows.uptoBulkAll, b0, b1, b2, b3]
  omega
/-- A slice of operations. -/
theorem open_ops {n len cap : Nat} {ao : Option Addr} {d : DataW H} {p : List MemPlace} (h : DataW.trod enc Tryd.prog W 0 (fun _ => true) held n 23 [.slice ao len cap] = some (d, p)) :
    OpRow W ao len ∧ 5 * len + 1 ≤ Rows.uptoBulk d := by
  obtain ⟨D, hrow, hbk, _, _⟩ := open_flat Tryd.underlying23 cells31 (by omega) h
  rcases hrow with rfl | ⟨g, o, rfl, hrow⟩
  · refine ⟨.inl rfl, ?_⟩
    have := bulks.one_le d
    omega
  · have each : ∀ i, i < len → (∃ k a b c : Int, W.cell? ⟨g, o + i * 4, none⟩ = some (.int .i64 k) ∧ W.cell? ⟨g, o + i * 4 + 1, none⟩ = some (.int .i64 a) ∧ W.cell? ⟨g, o + i * 4 + 2, none⟩ = some (.int .i64 b) ∧ W.cell? ⟨g, o + i * 4 + 3, none⟩ = some (.int .i64 c)) ∧ 5 ≤ Rows.uptoBulk (D i) := by
      intro i hi
      obtain ⟨cs, n', p', h1, _, h2⟩ := hrow i hi
      obtain ⟨q, a, b, d, rfl, w0, w1, w2, w3, hb⟩ := op_one h1
      exact ⟨⟨q, a, b, d, h2 0 (by omega), h2 1 (by omega), h2 2 (by omega), h2 3 (by omega)⟩, hb⟩
    refine ⟨.inr ⟨g, o, rfl, fun i hi => (each i hi).1⟩, ?_⟩
    have := bulk_each (k := 5) (D := D) (n := len) (fun i hi => (each i hi).2)
    omega
end
end Go.Proofs.YtfcaebceklhbkaaDoor

/-
  More arguments of this seat's laws, opened: calls.
-/
namespace Go.Proofs.YtfcaebceklhbkaaDoor
open Go.ChangeShapes Go.WideShapes Go.ChangeAt Go.RowKit Go.Deep
set_option linter.unusedVariables false

section
variable {H : Type} {enc : TypeId × Value → H} {W : World} {held : Bool}

theorem len5 {α : Type} {l : List α} (h : l.length = 5) : ∃ a b c d e, l = [a, b, c, d, e] := by
  match l, h with
  | [a, b, c, d, e], _ => exact ⟨a, b, c, d, e, rfl⟩
theorem len10 {α : Type} {l : List α} (h : l.length = 10) : ∃ a b c d e f g i j k, l = [a, b, c, d, e, f, g, i, j, k] := by
  match l, h with
  | [a, b, c, d, e, f, g, i, j, k], _ => exact ⟨a, b, c, d, e, f, g, i, j, k, rfl⟩
theorem cells26 : Tryd.prog.cellsOf 26 = 3 := by kernel_rfl
theorem cells4 : Tryd.prog.cellsOf 4 = 1 := by kernel_rfl
theorem cells22 : Tryd.prog.cellsOf 22 = 1 := by kernel_rfl
theorem cells81 : Tryd.prog.cellsOf 81 = 10 := by kernel_rfl
theorem bool_one {n : Nat} {t : TypeId} (ht : Tryd.prog.underlying t = some .bool) {cs : List Value} {y : DataW H × List MemPlace} (h : DataW.trod enc Tryd.prog W 0 (fun _ => true) held n t cs = some y) : ∃ b, cs = [.bool b] ∧ Rows.uptoBulk y.1 = 1 := by
  obtain ⟨b, h1, h2⟩ := DataW.trod_bool ht h
  exact ⟨b, h1, by rw [h2]; rfl⟩
theorem slice_one {n : Nat} {t e : TypeId} (ht : Tryd.prog.underlying t = some (.slice e)) {cs : List Value} {y : DataW H × List MemPlace} (h : DataW.trod enc Tryd.prog W 0 (fun _ => true) held n t cs = some y) : ∃ ao len cap, cs = [.slice ao len cap] ∧ len ≤ 9223372036854775807 ∧ 1 ≤ Rows.uptoBulk y.1 := by
  rcases open_slice ht h with ⟨hcs, hd⟩ | ⟨a, l, c, m, n', D, Pl, hcs, _, hl, hm, hmm, hd, hx⟩
  · exact ⟨none, 0, 0, hcs, by omega, bulks.one_le _⟩
  · exact ⟨some a, l, c, hcs, by unfold maxLen at hm; omega, bulks.one_le _⟩
theorem ans_one {n : Nat} {cs : List Value} {y : DataW H × List MemPlace} (h : DataW.trod enc Tryd.prog W 0 (fun _ => true) held n 26 cs = some y) : ∃ ok k ao len cap, cs = [.bool ok, .int .i64 k, .slice ao len cap] ∧ len ≤ 9223372036854775807 ∧ 4 ≤ Rows.uptoBulk y.1 := by
  obtain ⟨xs, m, _, hy, hl, hxl, hf⟩ := DataW.trod_struct Tryd.underlying26 h
  rw [cells26] at hl
  have hxl' : xs.length = 3 := hxl
  obtain ⟨v0, v1, v2, rfl⟩ := len3 hl
  obtain ⟨x0, x1, x2, rfl⟩ := len3 hxl'
  have g0 : DataW.trod enc Tryd.prog W 0 (fun _ => true) held m 4 (([v0, v1, v2].drop 0).take (Tryd.prog.cellsOf 4)) = some x0 := hf 0 _ rfl
  have g1 : DataW.trod enc Tryd.prog W 0 (fun _ => true) held m 2 (([v0, v1, v2].drop 1).take (Tryd.prog.cellsOf 2)) = some x1 := hf 1 _ rfl
  have g2 : DataW.trod enc Tryd.prog W 0 (fun _ => true) held m 22 (([v0, v1, v2].drop 2).take (Tryd.prog.cellsOf 22)) = some x2 := hf 2 _ rfl
  rw [cells4] at g0
  rw [cells2] at g1
  rw [cells22] at g2
  obtain ⟨ok, e0, b0⟩ := bool_one Tryd.underlying4 (y := x0) g0
  obtain ⟨k, e1, _, b1⟩ := int_one Tryd.underlying2 (y := x1) g1
  obtain ⟨ao, len, cap, e2, w2, b2⟩ := slice_one Tryd.underlying22 (y := x2) g2
  simp at e0 e1 e2
  subst e0 e1 e2
  refine ⟨ok, k, ao, len, cap, rfl, w2, ?_⟩
  rw [hy]
  simp only [List.map_cons, List.map_nil, Rows.uptoBulk, Rows.uptoBulkAll, b0, b1]
  omega
theorem call_one {n : Nat} {cs : List Value} {y : DataW H × List MemPlace} (h : DataW.trod enc Tryd.prog W 0 (fun _ => true) held n 81 cs = some y) : ∃ c : Cl, cs = c.cells ∧ (Fits c.x ∧ Fits c.y ∧ c.ln ≤ 9223372036854775807) ∧ 13 ≤ Rows.uptoBulk y.1 := by
  obtain ⟨xs, m, _, hy, hl, hxl, hf⟩ := DataW.trod_struct Tryd.underlying81 h
  rw [cells81] at hl
  have hxl' : xs.length = 5 := hxl
  obtain ⟨v0, v1, v2, v3, v4, v5, v6, v7, v8, v9, rfl⟩ := len10 hl
  obtain ⟨x0, x1, x2, x3, x4, rfl⟩ := len5 hxl'
  have g0 : DataW.trod enc Tryd.prog W 0 (fun _ => true) held m 3 (([v0, v1, v2, v3, v4, v5, v6, v7, v8, v9].drop 0).take (Tryd.prog.cellsOf 3)) = some x0 := hf 0 _ rfl
  have g1 : DataW.trod enc Tryd.prog W 0 (fun _ => true) held m 3 (([v0, v1, v2, v3, v4, v5, v6, v7, v8, v9].drop 1).take (Tryd.prog.cellsOf 3)) = some x1 := hf 1 _ rfl
  have g2 : DataW.trod enc Tryd.prog W 0 (fun _ => true) held m 3 (([v0, v1, v2, v3, v4, v5, v6, v7, v8, v9].drop 2).take (Tryd.prog.cellsOf 3)) = some x2 := hf 2 _ rfl
  have g3 : DataW.trod enc Tryd.prog W 0 (fun _ => true) held m 31 (([v0, v1, v2, v3, v4, v5, v6, v7, v8, v9].drop 3).take (Tryd.prog.cellsOf 31)) = some x3 := hf 3 _ rfl
  have g4 : DataW.trod enc Tryd.prog W 0 (fun _ => true) held m 26 (([v0, v1, v2, v3, v4, v5, v6, v7, v8, v9].drop 7).take (Tryd.prog.cellsOf 26)) = some x4 := hf 4 _ rfl
  rw [cells3] at g0 g1 g2
  rw [cells31] at g3
  rw [cells26] at g4
  obtain ⟨t, e0, _, b0⟩ := int_one Tryd.underlying3 (y := x0) g0
  obtain ⟨b, e1, _, b1⟩ := int_one Tryd.underlying3 (y := x1) g1
  obtain ⟨e, e2, _, b2⟩ := int_one Tryd.underlying3 (y := x2) g2
  obtain ⟨k, x, yy, z, e3, _, f1, f2, _, b3⟩ := op_one (y := x3) g3
  obtain ⟨ok, nn, ao, len, cap, e4, hlen, b4⟩ := ans_one (y := x4) g4
  simp at e0 e1 e2 e3 e4
  obtain ⟨e3a, e3b, e3c, e3d⟩ := e3
  obtain ⟨e4a, e4b, e4c⟩ := e4
  subst e0 e1 e2 e3a e3b e3c e3d e4a e4b e4c
  refine ⟨⟨t, b, e, k, x, yy, z, ok, nn, ao, len, cap⟩, rfl, ⟨f1, f2, hlen⟩, ?_⟩
  rw [hy]
  simp only [List.map_cons, List.map_nil, Rows.uptoBulk, Rows.uptoBulkAll, b0, b1, b2]
  omega
/-- A slice of calls. -/
theorem open_calls {n len cap : Nat} {ao : Option Addr} {d : DataW H} {p : List MemPlace} (h : DataW.trod enc Tryd.prog W 0 (fun _ => true) held n 37 [.slice ao len cap] = some (d, p)) :
    ∃ S : List Cl, S.length = len ∧ CallRow W ao S ∧ (ao = none → len = 0 ∧ cap = 0) ∧ (∀ c ∈ S, Fits c.x ∧ Fits c.y ∧ c.ln ≤ 9223372036854775807) ∧ 13 * len + 1 ≤ Rows.uptoBulk d := by
  obtain ⟨hnil, _⟩ := nil_cap Tryd.underlying37 h
  obtain ⟨D, hrow, hbk, _, _⟩ := open_flat Tryd.underlying37 cells81 (by omega) h
  rcases hrow with rfl | ⟨g, o, rfl, hrow⟩
  · refine ⟨[], rfl, .inl rfl, hnil, by simp, ?_⟩
    have := bulks.one_le d
    omega
  · have each : ∀ i, i < len → ∃ c : Cl, (∀ j, j < 10 → W.cell? ⟨g, o + i * 10 + j, none⟩ = c.cells[j]?) ∧ (Fits c.x ∧ Fits c.y ∧ c.ln ≤ 9223372036854775807) ∧ 13 ≤ Rows.uptoBulk (D i) := by
      intro i hi
      obtain ⟨cs, n', p', h1, _, h2⟩ := hrow i hi
      obtain ⟨c, rfl, hf, hb⟩ := call_one (y := (D i, p')) h1
      exact ⟨c, h2, hf, hb⟩
    obtain ⟨f, hf⟩ := choose_lt (α := Cl) each
    have hg : ∀ i, i < len → ((List.range len).map f).getD i default = f i := fun i hi => by simp [List.getD, hi]
    refine ⟨(List.range len).map f, by simp, .inr ⟨g, o, rfl, fun i hi => ?_⟩, (fun e => by cases e), fun c hc => ?_, ?_⟩
    · have hi' : i < len := by simpa using hi
      rw [hg i hi']
      exact (hf i hi').1
    · obtain ⟨i, hi, rfl⟩ := List.mem_map.1 hc
      exact (hf i (by simpa using hi)).2.1
    · have := bulk_each (k := 13) (D := D) (n := len) (fun i hi => (hf i hi).2.2)
      omega
end
end Go.Proofs.YtfcaebceklhbkaaDoor
