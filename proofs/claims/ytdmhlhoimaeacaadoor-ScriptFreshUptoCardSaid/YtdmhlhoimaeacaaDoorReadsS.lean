/-
  The law's reads (f10): the document's example is read and printed as it says.
-/
import Derived.Test.YtdmhlhoimaeacaaDoorExF
import Derived.Test.YtdmhlhoimaeacaaDoorS3
namespace Go.Proofs.YtdmhlhoimaeacaaDoor
open Go.RowKit Go.Maps PL
set_option linter.unusedVariables false

/-- What the example is read as, in memory. -/
def ExD (w : World) (e : Ending) (w1 : World) : Prop :=
  ∃ pt ct ga oa ch ps cs V gb ob c0 p1 c1, e = .returned (.tuple #[.agg #[.slice pt 1 ct, .slice (some ⟨ga, oa, none⟩) 2 ch, .slice ps 6 cs, .int .i64 0], .int .i64 0, .int .i64 0]) ∧
    ScrAt w1 (.slice pt 1 ct) (.slice (some ⟨ga, oa, none⟩) 2 ch) (.slice ps 6 cs) V exS ∧ Below w.heap.size w w1 ∧
    w1.cell? ⟨ga, oa + 1, none⟩ = some (.slice (some ⟨gb, ob, none⟩) 2 c0) ∧ w1.cell? ⟨ga, oa + 2 + 1, none⟩ = some (.slice p1 5 c1) ∧
    w1.cell? ⟨gb, ob + 4, none⟩ = some (.int .i64 3) ∧ w1.cell? ⟨gb, ob + 4 + 1, none⟩ = some (.int .i64 7) ∧ w1.cell? ⟨gb, ob + 4 + 2, none⟩ = some (.int .i64 10) ∧ w1.cell? ⟨gb, ob + 4 + 3, none⟩ = some (.int .i64 2)
theorem ex_walk (N : Nat) (w : World) (hE : Env N w) : Calls Tryd.prog 11 #[.string ⟨exT.toArray⟩] w (ExD w) := by
  have h := parse_walk N ⟨exT.toArray⟩ w hE (by decide +kernel)
  simp only [ex_parse] at h
  refine h.mono ?_
  rintro e w1 ⟨tv, hv, sv, V, rfl, hrows, _, hlow⟩
  have HS1 := hrows.read
  obtain ⟨pt, ct, rfl, _, _⟩ := hrows.read.tops
  obtain ⟨ph, ch, rfl, hch, hA1⟩ := hrows.read.thrs
  obtain ⟨ps, cs, rfl, _, _⟩ := hrows.read.sch
  obtain ⟨ga, oa, rfl, hA2⟩ := hA1.resolve_left (by intro e; have := congrArg List.length e; rw [hcells_length] at this; simp [exS] at this)
  obtain ⟨_, v0⟩ := hcell_name hA2 (i := 0) (by decide)
  obtain ⟨_, v1⟩ := hcell_name hA2 (i := 1) (by decide)
  obtain ⟨p0, c0, e0, hc0, hB1⟩ := hrows.read.each 0 (by decide)
  obtain ⟨p1, c1, e1, hc1, _⟩ := hrows.read.each 1 (by decide)
  obtain ⟨gb, ob, rfl, hB2⟩ := hB1.resolve_left (by intro e; have := congrArg List.length e; rw [ocells_length] at this; simp [exS] at this)
  obtain ⟨d0, d1, d2, d3⟩ := opn_cells hB2 (i := 1) (by decide)
  rw [e0] at v0
  rw [e1] at v1
  exact ⟨pt, ct, ga, oa, ch, ps, cs, V, gb, ob, c0, p1, c1, rfl, HS1, hlow, v0, v1, d0, d1, d2, d3⟩

set_option maxRecDepth 100000 in
set_option maxHeartbeats 8000000 in
theorem reads_walkS (N : Nat) (w : World) (hE : Env N w) :
    Calls Tryd.prog 10 #[] w fun e w' => e = .returned (.bool true) ∧ Below w.heap.size w w' := by
  have HP := Lib.hid (ex_walk N w hE)
  have HP2 := Lib.hid (fun W hW => parse_walk N ⟨exM.toArray⟩ W hW (by decide +kernel))
  simp only [ex_most] at HP2
  have HE := Lib.hid hE
  clear hE
  go_enter Tryd.func10, Tryd.ntmps10
  go_wp2_with fail
  refine HP.out.mono ?_
  rintro e w1 ⟨pt, ct, ga, oa, ch, ps, cs, V, gb, ob, c0, p1, c1, rfl, hS, hlow, x0, x1, y0, y1, y2, y3⟩
  have HS := Lib.hid hS
  have HL := Lib.hid hlow
  have HU : Hid (w1.cell? ⟨ga, oa + 1, none⟩ = some (.slice (some ⟨gb, ob, none⟩) 2 c0) ∧ w1.cell? ⟨gb, ob + 4, none⟩ = some (.int .i64 3) ∧ w1.cell? ⟨gb, ob + 4 + 1, none⟩ = some (.int .i64 7) ∧ w1.cell? ⟨gb, ob + 4 + 2, none⟩ = some (.int .i64 10) ∧ w1.cell? ⟨gb, ob + 4 + 3, none⟩ = some (.int .i64 2)) := Lib.hid ⟨x0, y0, y1, y2, y3⟩
  clear hS hlow
  go_upto_region 2 with fail
  have HB2 : Hid (Below w1.heap.size w1 (w1.alloc (.cells #[.slice pt 1 ct, .slice (some ⟨ga, oa, none⟩) 2 ch, .slice ps 6 cs, .int .i64 0] 27))) := Lib.hid ((Below.refl _ _).alloc (Nat.le_refl _) _)
  have HX := Lib.hid (heap_alloc_new w1 (.cells #[.slice pt 1 ct, .slice (some ⟨ga, oa, none⟩) 2 ch, .slice ps 6 cs, .int .i64 0] 27))
  have HS2 := Lib.hid (HS.out.below HB2.out)
  have HSZ : Hid ((w1.alloc (.cells #[.slice pt 1 ct, .slice (some ⟨ga, oa, none⟩) 2 ch, .slice ps 6 cs, .int .i64 0] 27)).heap.size = w1.heap.size + 1) := Lib.hid (by simp)
  have HL2 := Lib.hid (HL.out.trans (HB2.out.mono HL.out.size))
  have hlt0 := World.block_lt_of_cell? w1 _ x0
  have hlt1 := World.block_lt_of_cell? w1 _ y0
  simp only at hlt0 hlt1
  clear HP
  generalize w1.alloc (.cells #[.slice pt 1 ct, .slice (some ⟨ga, oa, none⟩) 2 ch, .slice ps 6 cs, .int .i64 0] 27) = w2 at *
  have HC : Hid (∀ W, Below w2.heap.size w2 W → W.cell? ⟨w1.heap.size, 1, none⟩ = some (.slice (some ⟨ga, oa, none⟩) 2 ch) ∧ W.cell? ⟨ga, oa + 1, none⟩ = some (.slice (some ⟨gb, ob, none⟩) 2 c0) ∧ W.cell? ⟨gb, ob + 4, none⟩ = some (.int .i64 3) ∧ W.cell? ⟨gb, ob + 4 + 1, none⟩ = some (.int .i64 7) ∧ W.cell? ⟨gb, ob + 4 + 2, none⟩ = some (.int .i64 10) ∧ W.cell? ⟨gb, ob + 4 + 3, none⟩ = some (.int .i64 2)) := Lib.hid (fun W hW => by
    have h1 : Below w1.heap.size w1 W := HB2.out.trans (hW.mono (by have := HSZ.out; omega))
    have k : ∀ (p : Addr) (v : Value), w1.cell? p = some v → W.cell? p = some v := fun p v h => (h1.cell (World.block_lt_of_cell? w1 _ h)).trans h
    have h2 := (hW.block w1.heap.size (by have := HSZ.out; omega)).trans HX.out
    obtain ⟨q0, q1, q2, q3, q4⟩ := HU.out
    exact ⟨(cell_of h2 1).trans rfl, k _ _ q0, k _ _ q1, k _ _ q2, k _ _ q3, k _ _ q4⟩)
  have z0 : w2.cell? ⟨w1.heap.size, 0, none⟩ = some (.slice pt 1 ct) := (cell_of HX.out 0).trans rfl
  have z1 : w2.cell? ⟨w1.heap.size, 1, none⟩ = some (.slice (some ⟨ga, oa, none⟩) 2 ch) := (cell_of HX.out 1).trans rfl
  have z2 : w2.cell? ⟨w1.heap.size, 2, none⟩ = some (.slice ps 6 cs) := (cell_of HX.out 2).trans rfl
  have z3 : w2.cell? ⟨w1.heap.size, 3, none⟩ = some (.int .i64 0) := (cell_of HX.out 3).trans rfl
  have u0 := (HB2.out.cell (World.block_lt_of_cell? w1 _ x0)).trans x0
  have u1 := (HB2.out.cell (World.block_lt_of_cell? w1 _ x1)).trans x1
  have HPR := Lib.hid (print_walk N _ _ _ V exS w2 (HE.out.up HL2.out) HS2.out (good_small (by have := parse_good' exT; rw [ex_parse] at this; exact this)) (good_nums (by have := parse_good' exT; rw [ex_parse] at this; exact this)))
  unfold PrintD at HPR
  rw [ex_check, if_pos rfl, ex_print] at HPR
  clear x0 x1 y0 y1 y2 y3
  have l4 : exS.most = 0 := rfl
  rw [l4] at HPR
  clear l4
  go_wp2_with fail
  refine HPR.out.mono ?_
  rintro e w3 ⟨rfl, hb3⟩
  have HB3 := Lib.hid hb3
  have HE3 := Lib.hid ((HE.out.up HL2.out).up hb3)
  clear hb3 z0 z1 z2 z3 u0 u1
  go_wp2_with fail
  refine (HP2.out _ HE3.out).mono ?_
  rintro e w4 ⟨tv, hv, sv, V', rfl, hrw, _, hb4⟩
  obtain ⟨pt', ct', rfl, _, _⟩ := hrw.read.tops
  obtain ⟨ph', ch', rfl, _, _⟩ := hrw.read.thrs
  obtain ⟨ps', cs', rfl, _, _⟩ := hrw.read.sch
  clear hrw
  have HB4 := Lib.hid (HB3.out.trans (hb4.mono HB3.out.size))
  have HB5 : Hid (∀ o, Below w2.heap.size w2 (w4.alloc o)) := Lib.hid (fun o => HB4.out.alloc HB4.out.size o)
  clear hb4
  go_upto_region 6 with fail
  have HB6 := Lib.hid (HB5.out (.cells #[.slice pt' Scr.empty.tops.length ct', .slice ph' Scr.empty.thrs.length ch', .slice ps' Scr.empty.sch.length cs', .int .i64 Scr.empty.most] 27))
  generalize w4.alloc (.cells #[.slice pt' Scr.empty.tops.length ct', .slice ph' Scr.empty.thrs.length ch', .slice ps' Scr.empty.sch.length cs', .int .i64 Scr.empty.most] 27) = w5 at *
  obtain ⟨k0, k1, k2, k3, k4, k5⟩ := HC.out _ HB6.out
  have hqq := fun W => eql_opn ⟨3, 7, 10, 2⟩ ⟨3, 7, 10, 2⟩ W
  clear HB5 HB4 HC
  go_wp2_with fail
  go_ret
  exact ⟨rfl, HL2.out.trans (HB6.out.mono HL2.out.size)⟩
end Go.Proofs.YtdmhlhoimaeacaaDoor
