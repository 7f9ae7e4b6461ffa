/-
  Merged out of: OpenP. No condition of its own.
-/
import Derived.Test.YtimkkeomdkbcjaaPlaysP39
import Derived.Test.YtimkkeomdkbcjaaPlaysP33
set_option linter.unusedVariables false
set_option linter.unusedSimpArgs false
/-
  BarrierPlays' argument opened: words, threads, a schedule, a number. No walk.
-/
namespace Go.Proofs.Ytimkkeomdkbcjaa.OpenB
open Go.ChangeShapes Go.WideShapes Go.ChangeAt Go.RowKit Go.Deep
section
variable {H : Type} {enc : TypeId × Value → H} {W : World} {held : Bool}
set_option maxRecDepth 100000 in
theorem nil_cap {n : Nat} {t e : TypeId} {len cap : Nat} {ao : Option Addr} {y : DataW H × List MemPlace} (ht : Try.prog.underlying t = some (.slice e)) (h : DataW.trod enc Try.prog W 0 (fun _ => true) held n t [.slice ao len cap] = some y) : NilV (.slice ao len cap) := by
  have key : ao = none → cap = 0 := fun e => by
    rcases open_slice ht h with ⟨hcs, hd⟩ | ⟨a, l, c, m, n', D, Pl, hcs, _, hl, hm, hmm, hd, hx⟩
    · injection hcs with hcs
      injection hcs with _ _ h3
    · injection hcs with hcs
      injection hcs with h1 _ _
      rw [e] at h1
      cases h1
  exact fun n' c' e1 => by
    injection e1 with e1 e2 e3
    rw [← e3]
    exact key e1
theorem ops_bulk {n len cap : Nat} {ao : Option Addr} {d : DataW H} {p : List MemPlace} (h : DataW.trod enc Try.prog W 0 (fun _ => true) held n 92 [.slice ao len cap] = some (d, p)) : len + 1 ≤ Rows.uptoBulk d := by
  obtain ⟨D, hrow, hbk, hlc, _⟩ := open_flat Try.underlying92 cells94 (by omega) h
  have := bulks.length_le ((List.range len).map D)
  simp only [List.length_map, List.length_range] at this
  omega
theorem thr_bulk {n len cap : Nat} {ao : Option Addr} {d : DataW H} {p : List MemPlace} (h : DataW.trod enc Try.prog W 0 (fun _ => true) held n 56 [.slice ao len cap] = some (d, p)) {LL : List (List OpD)} (hT : ThrIn W (.slice ao len cap) LL) : ∀ L ∈ LL, L.length ≤ Rows.uptoBulk d := by
  obtain ⟨D, hrow, hbk, hlc, _⟩ := open_flat Try.underlying56 cells92 (by omega) h
  obtain ⟨a, c, e, ob, ln, cp, q1, q2⟩ := hT
  injection e with e1 e2 e3
  intro L hL
  obtain ⟨i, hi, rfl⟩ := List.getElem_of_mem hL
  have hx := List.getElem?_eq_getElem hi
  obtain ⟨_, e4, _⟩ := q2 i _ hx
  rcases hrow with rfl | ⟨g, o, e5, hrow⟩
  · omega
  · obtain ⟨b, o', e6, q3⟩ := q1 (fun z => by rw [z] at hi; simp at hi)
    rw [e5] at e1
    rw [← e1] at e6
    injection e6 with e6
    injection e6 with e7 e8
    subst e7 e8
    have h1 := q3 i _ hx
    obtain ⟨cs, n', p', h2, hcl, h3⟩ := hrow i (by omega)
    obtain ⟨ao', l', c', rfl⟩ := slice_one Try.underlying92 h2
    have h4 := h3 0 (by omega)
    simp only [Nat.mul_one, Nat.add_zero, List.getElem?_cons_zero] at h4
    rw [h4] at h1
    injection h1 with h1
    injection h1 with h5 h6 h7
    have hb := ops_bulk h2
    have hb2 := bulk_at (D := D) (show i < len by omega)
    omega
theorem cells59 : Try.prog.cellsOf 59 = 4 := by kernel_rfl
theorem cells28 : Try.prog.cellsOf 28 = 1 := by kernel_rfl
theorem cells56 : Try.prog.cellsOf 56 = 1 := by kernel_rfl
theorem cells57 : Try.prog.cellsOf 57 = 1 := by kernel_rfl
structure WorldIn (w : World) (vw vt vs : Value) (ws : List Int) (LL : List (List OpD)) (sch : List Int) (most : Int) : Prop where
  iw : IntsIn w vw ws
  it : ThrIn w vt LL
  is : IntsIn w vs sch
  nil : NilV vs
  wn : ws.length ≤ 1048576
  tn : LL.length ≤ 1048576
  on : ∀ L ∈ LL, L.length ≤ 1048576
  sn : sch.length ≤ 1048576
  im : In64 most
set_option maxRecDepth 100000 in
theorem open_world {base : Nat} {v : Value} {d : DataW H} {p : List MemPlace} (hval : Value.okWide Try.prog W .any base 59 v) (h : DataW.Trod enc Try.prog W 0 (fun _ => true) held 59 v d p) (hb : Rows.uptoBulk d ≤ 1048576) :
    ∃ vw vt vs ws LL sch most, v = .agg #[vw, vt, vs, .int .i64 most] ∧ WorldIn W vw vt vs ws LL sch most := by
  obtain ⟨cs, rfl, _, _⟩ : ∃ cs, v = .agg cs ∧ cs.size = Try.prog.cellsOf 59 ∧ Row.okWide Try.prog W .any base 59 cs := by
    unfold Value.okWide at hval
    rw [Try.underlying59] at hval
    exact hval
  obtain ⟨f, hf0⟩ := h
  have hf1 : DataW.trod enc Try.prog W 0 (fun _ => true) held f 59 cs.toList = some (d, p) := hf0
  obtain ⟨xs, m, _, hy, hl, hxl, hf⟩ := DataW.trod_struct Try.underlying59 hf1
  rw [cells59] at hl
  have hxl' : xs.length = 4 := hxl
  obtain ⟨v0, v1, v2, v3, hcs⟩ := ln4 hl
  obtain ⟨x0, x1, x2, x3, rfl⟩ := ln4 hxl'
  rw [hcs] at hf
  have g0 : DataW.trod enc Try.prog W 0 (fun _ => true) held m 28 (([v0, v1, v2, v3].drop 0).take (Try.prog.cellsOf 28)) = some x0 := hf 0 _ rfl
  have g1 : DataW.trod enc Try.prog W 0 (fun _ => true) held m 56 (([v0, v1, v2, v3].drop 1).take (Try.prog.cellsOf 56)) = some x1 := hf 1 _ rfl
  have g2 : DataW.trod enc Try.prog W 0 (fun _ => true) held m 57 (([v0, v1, v2, v3].drop 2).take (Try.prog.cellsOf 57)) = some x2 := hf 2 _ rfl
  have g3 : DataW.trod enc Try.prog W 0 (fun _ => true) held m 3 (([v0, v1, v2, v3].drop 3).take (Try.prog.cellsOf 3)) = some x3 := hf 3 _ rfl
  rw [cells28] at g0
  rw [cells56] at g1
  rw [cells57] at g2
  rw [cells3] at g3
  obtain ⟨a0, l0, c0, e0⟩ := slice_one Try.underlying28 g0
  obtain ⟨a1, l1, c1, e1⟩ := slice_one Try.underlying56 g1
  obtain ⟨a2, l2, c2, e2⟩ := slice_one Try.underlying57 g2
  obtain ⟨z, e3, w3⟩ := int_one Try.underlying3 (y := x3) g3
  simp at e0 e1 e2 e3
  subst e0 e1 e2 e3
  obtain ⟨x0a, x0b⟩ := x0
  obtain ⟨x1a, x1b⟩ := x1
  obtain ⟨x2a, x2b⟩ := x2
  obtain ⟨ws, hw, _, iW, bW⟩ := open_nums Try.underlying28 Try.underlying2 cells2 g0
  obtain ⟨LL, hL, _, iL, bL⟩ := open_thr g1
  obtain ⟨Q, hQ, _, iQ, bQ⟩ := open_nums Try.underlying57 Try.underlying3 cells3 g2
  have hob := thr_bulk g1 iL
  have hbk : Rows.uptoBulk x0a ≤ 1048576 ∧ Rows.uptoBulk x1a ≤ 1048576 ∧ Rows.uptoBulk x2a ≤ 1048576 := by
    have e : d = _ := (congrArg Prod.fst hy)
    rw [e] at hb
    simp only [List.map_cons, List.map_nil, Rows.uptoBulk, Rows.uptoBulkAll] at hb
    omega
  refine ⟨_, _, _, ws, LL, Q, z, ?_, iW, iL, iQ, nil_cap Try.underlying57 g2, by omega, by omega, fun L hL => Nat.le_trans (hob L hL) hbk.2.1, by omega, w3⟩
  congr 1
  apply Array.toList_inj.1
  rw [hcs]
end
end Go.Proofs.Ytimkkeomdkbcjaa.OpenB
