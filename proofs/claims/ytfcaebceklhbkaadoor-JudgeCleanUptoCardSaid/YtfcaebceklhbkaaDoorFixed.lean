/-
  The contract of carillonlaw20.fixed: it answers true.
-/
import Derived.Test.YtfcaebceklhbkaaDoorLinear
import Derived.Test.YtfcaebceklhbkaaDoorReads
namespace Go.Proofs.YtfcaebceklhbkaaDoor
open Go.RowKit Go.Maps
set_option linter.unusedVariables false

theorem doOk_two : DoOk 2 := fun v l k a b c w h hl => doOne_walk 2 (.inr rfl) v l k a b c w h hl
theorem doOk_one : DoOk 1 := fun v l k a b c w h hl => doOne_walk 1 (.inl rfl) v l k a b c w h hl

theorem load_call (w : World) (N : Nat) (a b c d e f g h i j : Value) (h0 : w.cell? ⟨N, 0, none⟩ = some a) (h1 : w.cell? ⟨N, 1, none⟩ = some b) (h2 : w.cell? ⟨N, 2, none⟩ = some c) (h3 : w.cell? ⟨N, 3, none⟩ = some d) (h4 : w.cell? ⟨N, 4, none⟩ = some e)
    (h5 : w.cell? ⟨N, 5, none⟩ = some f) (h6 : w.cell? ⟨N, 6, none⟩ = some g) (h7 : w.cell? ⟨N, 7, none⟩ = some h) (h8 : w.cell? ⟨N, 8, none⟩ = some i) (h9 : w.cell? ⟨N, 9, none⟩ = some j) :
    (loadVar 81 ⟨N, 0, none⟩).run Tryd.prog w = .ok (.agg #[a, b, c, d, e, f, g, h, i, j]) w := by
  simp [loadVar, go_sem, h0, h1, h2, h3, h4, h5, h6, h7, h8, h9]

theorem results_one_cell {fn : Func} {p : Tmp} {ty : TypeId} (h : fn.results = #[.cell p ty]) (tmps : Array Value) (P : Program) (w : World) (v : Value) (x : Addr) (hp : tmps.getD p undef = .pointer (some x)) (hl : (loadVar ty x).run P w = .ok v w) :
    (results fn tmps).run P w = .ok v w := by
  simp only [results, h]
  have hp' : tmps[p]?.getD undef = .pointer (some x) := by simpa using hp
  simp [hp', asAddr, hl]

set_option maxRecDepth 100000 in
set_option maxHeartbeats 4000000 in
theorem add_walk (n : Int) (w : World) : Calls Tryd.prog 34 #[.int .i64 n] w fun e w' => e = .returned (.agg #[.int .i64 0, .int .i64 0, .int .i64 9, .int .i64 2, .int .i64 1, .int .i64 0, .int .i64 0, .bool true, .int .i64 n, .slice none 0 0]) ∧ Below w.heap.size w w' := by
  go_enter Tryd.func34, Tryd.ntmps34
  go_wp2_with fail
  have hb := heap_alloc_new w (.cells #[.int .i64 0, .int .i64 0, .int .i64 9, .int .i64 2, .int .i64 1, .int .i64 0, .int .i64 0, .bool true, .int .i64 n, .slice none 0 0] 81)
  refine bodyPost_ret (results_one_cell (fn := Tryd.f34) (p := 2) (ty := 81) rfl _ _ _ _ ⟨w.heap.size, 0, none⟩ rfl (load_call _ w.heap.size _ _ _ _ _ _ _ _ _ _ ((cell_of hb 0).trans rfl) ((cell_of hb 1).trans rfl) ((cell_of hb 2).trans rfl) ((cell_of hb 3).trans rfl) ((cell_of hb 4).trans rfl) ((cell_of hb 5).trans rfl) ((cell_of hb 6).trans rfl) ((cell_of hb 7).trans rfl) ((cell_of hb 8).trans rfl) ((cell_of hb 9).trans rfl))) rfl ⟨rfl, (Below.refl _ _).alloc (Nat.le_refl _) _⟩

def fixS : List Seen4 := [⟨3, 0, 0, 0⟩, ⟨4, 0, 0, 0⟩, ⟨6, 0, 0, 0⟩, ⟨6, 0, 0, 0⟩, ⟨5, 0, 0, 0⟩]
theorem fix_run : runF fixS 3 = [⟨1, 0, 2, 6, 5⟩, ⟨2, 0, 3, 6, 7⟩, ⟨3, 0, 4, 5, 7⟩] := by kernel_rfl
def addC (n : Int) : Cl := ⟨0, 0, 9, 2, 1, 0, 0, true, n, none, 0, 0⟩
theorem fix_one : linF 2 [addC 2, addC 1] [] = (some [1, 0], 0) := by kernel_rfl
theorem fix_two : linF 2 [addC 2, addC 2] [] = (none, 0) := by kernel_rfl
theorem neq_one (w : World) : (binOp .neq 77 (.agg #[.int .i64 1, .int .i64 0, .int .i64 2, .int .i64 6, .int .i64 5]) (.agg #[.int .i64 1, .int .i64 0, .int .i64 2, .int .i64 6, .int .i64 5])).run Tryd.prog w = .ok (.bool false) w := neq_flt ⟨1, 0, 2, 6, 5⟩ ⟨1, 0, 2, 6, 5⟩ w
theorem neq_two (w : World) : (binOp .neq 77 (.agg #[.int .i64 2, .int .i64 0, .int .i64 3, .int .i64 6, .int .i64 7]) (.agg #[.int .i64 2, .int .i64 0, .int .i64 3, .int .i64 6, .int .i64 7])).run Tryd.prog w = .ok (.bool false) w := neq_flt ⟨2, 0, 3, 6, 7⟩ ⟨2, 0, 3, 6, 7⟩ w
theorem neq_three (w : World) : (binOp .neq 77 (.agg #[.int .i64 3, .int .i64 0, .int .i64 4, .int .i64 5, .int .i64 7]) (.agg #[.int .i64 3, .int .i64 0, .int .i64 4, .int .i64 5, .int .i64 7])).run Tryd.prog w = .ok (.bool false) w := neq_flt ⟨3, 0, 4, 5, 7⟩ ⟨3, 0, 4, 5, 7⟩ w

theorem fix_seen (w : World) : SeenRow (w.alloc (.cells #[.int .i64 3, .int .i64 0, .int .i64 0, .int .i64 0, .int .i64 4, .int .i64 0, .int .i64 0, .int .i64 0, .int .i64 6, .int .i64 0, .int .i64 0, .int .i64 0, .int .i64 6, .int .i64 0, .int .i64 0, .int .i64 0, .int .i64 5, .int .i64 0, .int .i64 0, .int .i64 0] 75)) (some ⟨w.heap.size, 0, none⟩) fixS := by
  have h := heap_alloc_new w (.cells #[.int .i64 3, .int .i64 0, .int .i64 0, .int .i64 0, .int .i64 4, .int .i64 0, .int .i64 0, .int .i64 0, .int .i64 6, .int .i64 0, .int .i64 0, .int .i64 0, .int .i64 6, .int .i64 0, .int .i64 0, .int .i64 0, .int .i64 5, .int .i64 0, .int .i64 0, .int .i64 0] 75)
  refine .inr ⟨w.heap.size, 0, rfl, fun i hi => ?_⟩
  have hi' : i < 5 := hi
  rcases (by omega : i = 0 ∨ i = 1 ∨ i = 2 ∨ i = 3 ∨ i = 4) with rfl | rfl | rfl | rfl | rfl <;> exact ⟨(cell_of h _).trans rfl, (cell_of h _).trans rfl, (cell_of h _).trans rfl, (cell_of h _).trans rfl⟩
theorem fix_calls (w : World) (n1 n2 : Int) : CallRow (w.alloc (.cells #[.int .i64 0, .int .i64 0, .int .i64 9, .int .i64 2, .int .i64 1, .int .i64 0, .int .i64 0, .bool true, .int .i64 n1, .slice none 0 0, .int .i64 0, .int .i64 0, .int .i64 9, .int .i64 2, .int .i64 1, .int .i64 0, .int .i64 0, .bool true, .int .i64 n2, .slice none 0 0] 81)) (some ⟨w.heap.size, 0, none⟩) [addC n1, addC n2] := by
  have h := heap_alloc_new w (.cells #[.int .i64 0, .int .i64 0, .int .i64 9, .int .i64 2, .int .i64 1, .int .i64 0, .int .i64 0, .bool true, .int .i64 n1, .slice none 0 0, .int .i64 0, .int .i64 0, .int .i64 9, .int .i64 2, .int .i64 1, .int .i64 0, .int .i64 0, .bool true, .int .i64 n2, .slice none 0 0] 81)
  refine .inr ⟨w.heap.size, 0, rfl, fun i hi j hj => ?_⟩
  have hi' : i < 2 := hi
  rcases (by omega : i = 0 ∨ i = 1) with rfl | rfl <;>
    rcases (by omega : j = 0 ∨ j = 1 ∨ j = 2 ∨ j = 3 ∨ j = 4 ∨ j = 5 ∨ j = 6 ∨ j = 7 ∨ j = 8 ∨ j = 9) with rfl | rfl | rfl | rfl | rfl | rfl | rfl | rfl | rfl | rfl <;> exact (cell_of h _).trans rfl

theorem fix_fits (n1 n2 : Int) : ∀ c ∈ [addC n1, addC n2], Fits c.x ∧ Fits c.y ∧ c.ln ≤ 9223372036854775807 := by
  intro c hc
  simp only [List.mem_cons, List.not_mem_nil, or_false] at hc
  rcases hc with rfl | rfl <;> exact ⟨⟨by simp [addC], by simp [addC]⟩, ⟨by simp [addC], by simp [addC]⟩, by simp [addC]⟩
theorem fix_lin (W : World) (n1 n2 : Int) (g : Nat) (h : CallRow W (some ⟨g, 0, none⟩) [addC n1, addC n2]) (ht : Tab W) : Calls Tryd.prog 16 #[.int .i64 2, .slice none 0 0, .slice (some ⟨g, 0, none⟩) 2 2] W (DoneL (linF 2 [addC n1, addC n2] []) W) :=
  linear_walk 2 [addC n1, addC n2] (some ⟨g, 0, none⟩) 2 2 (.slice none 0 0) [] W rfl h ht doOk_two (fix_fits n1 n2) (by omega) ⟨none, 0, rfl, .inl rfl⟩ (fun x hx => by cases hx) (by simp)
set_option maxRecDepth 100000 in
set_option maxHeartbeats 8000000 in
theorem fixed_walk (w : World) (ht : Tab w) : Calls Tryd.prog 11 #[] w fun e w' => e = .returned (.bool true) ∧ Below w.heap.size w w' := by
  have HT := Lib.hid ht
  have HSR := Lib.hid (fix_seen w)
  have HB1 : Hid (Below w.heap.size w (w.alloc (.cells #[.int .i64 3, .int .i64 0, .int .i64 0, .int .i64 0, .int .i64 4, .int .i64 0, .int .i64 0, .int .i64 0, .int .i64 6, .int .i64 0, .int .i64 0, .int .i64 0, .int .i64 6, .int .i64 0, .int .i64 0, .int .i64 0, .int .i64 5, .int .i64 0, .int .i64 0, .int .i64 0] 75))) := (Below.refl _ _).alloc (Nat.le_refl _) _
  clear ht
  go_enter Tryd.func11, Tryd.ntmps11
  go_wp2_with fail
  generalize w.alloc (.cells #[.int .i64 3, .int .i64 0, .int .i64 0, .int .i64 0, .int .i64 4, .int .i64 0, .int .i64 0, .int .i64 0, .int .i64 6, .int .i64 0, .int .i64 0, .int .i64 0, .int .i64 6, .int .i64 0, .int .i64 0, .int .i64 0, .int .i64 5, .int .i64 0, .int .i64 0, .int .i64 0] 75) = w1 at *
  refine (run_walk (some ⟨w.heap.size, 0, none⟩) 5 5 fixS 3 w1 HSR.out rfl (by omega)).mono ?_
  rintro e w2 ⟨va, rfl, ha, hb2⟩
  rw [fix_run] at ha
  obtain ⟨ao, c, rfl, hrow⟩ := own_flt ha
  obtain ⟨g, o, rfl, hc⟩ : ∃ g o, ao = some ⟨g, o, none⟩ ∧ ∀ i, i < 3 → w2.cell? ⟨g, o + i * 5, none⟩ = some (.int .i64 (([⟨1, 0, 2, 6, 5⟩, ⟨2, 0, 3, 6, 7⟩, ⟨3, 0, 4, 5, 7⟩] : List Flt).getD i default).k) ∧ w2.cell? ⟨g, o + i * 5 + 1, none⟩ = some (.int .i64 (([⟨1, 0, 2, 6, 5⟩, ⟨2, 0, 3, 6, 7⟩, ⟨3, 0, 4, 5, 7⟩] : List Flt).getD i default).r) ∧
      w2.cell? ⟨g, o + i * 5 + 2, none⟩ = some (.int .i64 (([⟨1, 0, 2, 6, 5⟩, ⟨2, 0, 3, 6, 7⟩, ⟨3, 0, 4, 5, 7⟩] : List Flt).getD i default).i) ∧ w2.cell? ⟨g, o + i * 5 + 3, none⟩ = some (.int .i64 (([⟨1, 0, 2, 6, 5⟩, ⟨2, 0, 3, 6, 7⟩, ⟨3, 0, 4, 5, 7⟩] : List Flt).getD i default).q) ∧ w2.cell? ⟨g, o + i * 5 + 4, none⟩ = some (.int .i64 (([⟨1, 0, 2, 6, 5⟩, ⟨2, 0, 3, 6, 7⟩, ⟨3, 0, 4, 5, 7⟩] : List Flt).getD i default).w) := by
    rcases hrow with h | ⟨g, o, h1, h2⟩
    · cases h
    · exact ⟨g, o, h1, h2⟩
  have a0 : w2.cell? ⟨g, o, none⟩ = some (.int .i64 1) := (hc 0 (by omega)).1
  have a1 : w2.cell? ⟨g, o + 1, none⟩ = some (.int .i64 0) := (hc 0 (by omega)).2.1
  have a2 : w2.cell? ⟨g, o + 2, none⟩ = some (.int .i64 2) := (hc 0 (by omega)).2.2.1
  have a3 : w2.cell? ⟨g, o + 3, none⟩ = some (.int .i64 6) := (hc 0 (by omega)).2.2.2.1
  have a4 : w2.cell? ⟨g, o + 4, none⟩ = some (.int .i64 5) := (hc 0 (by omega)).2.2.2.2
  have b0 : w2.cell? ⟨g, o + 5, none⟩ = some (.int .i64 2) := (hc 1 (by omega)).1
  have b1 : w2.cell? ⟨g, o + 5 + 1, none⟩ = some (.int .i64 0) := (hc 1 (by omega)).2.1
  have b2 : w2.cell? ⟨g, o + 5 + 2, none⟩ = some (.int .i64 3) := (hc 1 (by omega)).2.2.1
  have b3 : w2.cell? ⟨g, o + 5 + 3, none⟩ = some (.int .i64 6) := (hc 1 (by omega)).2.2.2.1
  have b4 : w2.cell? ⟨g, o + 5 + 4, none⟩ = some (.int .i64 7) := (hc 1 (by omega)).2.2.2.2
  have c0 : w2.cell? ⟨g, o + 10, none⟩ = some (.int .i64 3) := (hc 2 (by omega)).1
  have c1 : w2.cell? ⟨g, o + 10 + 1, none⟩ = some (.int .i64 0) := (hc 2 (by omega)).2.1
  have c2 : w2.cell? ⟨g, o + 10 + 2, none⟩ = some (.int .i64 4) := (hc 2 (by omega)).2.2.1
  have c3 : w2.cell? ⟨g, o + 10 + 3, none⟩ = some (.int .i64 5) := (hc 2 (by omega)).2.2.2.1
  have c4 : w2.cell? ⟨g, o + 10 + 4, none⟩ = some (.int .i64 7) := (hc 2 (by omega)).2.2.2.2
  have n1 := neq_one w2
  have n2 := neq_two w2
  have n3 := neq_three w2
  have HB2 := Lib.hid (HB1.out.trans (hb2.mono HB1.out.size))
  clear hc hrow ha hb2
  simp only [List.length_cons, List.length_nil] at *
  go_wp2_with fail
  clear a0 a1 a2 a3 a4 b0 b1 b2 b3 b4 c0 c1 c2 c3 c4 n1 n2 n3
  refine (add_walk 2 w2).mono ?_
  rintro e w3 ⟨rfl, hb3⟩
  have HB3 := Lib.hid (HB2.out.trans (hb3.mono HB2.out.size))
  clear hb3
  go_wp2_with fail
  refine (add_walk 1 w3).mono ?_
  rintro e w4 ⟨rfl, hb4⟩
  have HB4 := Lib.hid (HB3.out.trans (hb4.mono HB3.out.size))
  clear hb4
  have HC4 := Lib.hid (fix_calls w4 2 1)
  have HB5 : Hid (Below w.heap.size w (w4.alloc (.cells #[.int .i64 0, .int .i64 0, .int .i64 9, .int .i64 2, .int .i64 1, .int .i64 0, .int .i64 0, .bool true, .int .i64 2, .slice none 0 0, .int .i64 0, .int .i64 0, .int .i64 9, .int .i64 2, .int .i64 1, .int .i64 0, .int .i64 0, .bool true, .int .i64 1, .slice none 0 0] 81))) := HB4.out.alloc HB4.out.size _
  go_wp2_with fail
  generalize w4.alloc (.cells #[.int .i64 0, .int .i64 0, .int .i64 9, .int .i64 2, .int .i64 1, .int .i64 0, .int .i64 0, .bool true, .int .i64 2, .slice none 0 0, .int .i64 0, .int .i64 0, .int .i64 9, .int .i64 2, .int .i64 1, .int .i64 0, .int .i64 0, .bool true, .int .i64 1, .slice none 0 0] 81) = w5 at *
  have hlin := fix_lin w5 2 1 w4.heap.size HC4.out (HT.out.below HB5.out)
  rw [fix_one] at hlin
  refine hlin.mono ?_
  rintro e w6 ⟨hb6, v, rfl, hr6⟩
  have HB6 := Lib.hid (HB5.out.trans (hb6.mono HB5.out.size))
  have HR6 := Lib.hid hr6
  clear hb6 hlin hr6
  go_wp2_with fail
  refine (add_walk 2 w6).mono ?_
  rintro e w7 ⟨rfl, hb7⟩
  have HB7 := Lib.hid (HB6.out.trans (hb7.mono HB6.out.size))
  have HR7 := Lib.hid (own_below HR6.out hb7)
  clear hb7
  go_wp2_with fail
  refine (add_walk 2 w7).mono ?_
  rintro e w8 ⟨rfl, hb8⟩
  have HB8 := Lib.hid (HB7.out.trans (hb8.mono HB7.out.size))
  have HR8 := Lib.hid (own_below HR7.out hb8)
  clear hb8
  have HC8 := Lib.hid (fix_calls w8 2 2)
  have HB9 : Hid (Below w.heap.size w (w8.alloc (.cells #[.int .i64 0, .int .i64 0, .int .i64 9, .int .i64 2, .int .i64 1, .int .i64 0, .int .i64 0, .bool true, .int .i64 2, .slice none 0 0, .int .i64 0, .int .i64 0, .int .i64 9, .int .i64 2, .int .i64 1, .int .i64 0, .int .i64 0, .bool true, .int .i64 2, .slice none 0 0] 81))) := HB8.out.alloc HB8.out.size _
  have HR9 := Lib.hid (HR8.out.alloc (.cells #[.int .i64 0, .int .i64 0, .int .i64 9, .int .i64 2, .int .i64 1, .int .i64 0, .int .i64 0, .bool true, .int .i64 2, .slice none 0 0, .int .i64 0, .int .i64 0, .int .i64 9, .int .i64 2, .int .i64 1, .int .i64 0, .int .i64 0, .bool true, .int .i64 2, .slice none 0 0] 81))
  go_wp2_with fail
  generalize w8.alloc (.cells #[.int .i64 0, .int .i64 0, .int .i64 9, .int .i64 2, .int .i64 1, .int .i64 0, .int .i64 0, .bool true, .int .i64 2, .slice none 0 0, .int .i64 0, .int .i64 0, .int .i64 9, .int .i64 2, .int .i64 1, .int .i64 0, .int .i64 0, .bool true, .int .i64 2, .slice none 0 0] 81) = w9 at *
  have hlin := fix_lin w9 2 2 w8.heap.size HC8.out (HT.out.below HB9.out)
  rw [fix_two] at hlin
  refine hlin.mono ?_
  rintro e w10 ⟨hb10, rfl⟩
  have HB10 := Lib.hid (HB9.out.trans (hb10.mono HB9.out.size))
  have hr10 := own_below HR9.out hb10
  obtain ⟨gv, cv, rfl, hv0, hv1⟩ : ∃ gv cv, v = .slice (some ⟨gv, 0, none⟩) 2 cv ∧ w10.cell? ⟨gv, 0, none⟩ = some (.int .i64 1) ∧ w10.cell? ⟨gv, 1, none⟩ = some (.int .i64 0) := by
    have hcells : ∀ g, v.ownBlock = some g → ∀ j u, (ordV [1, 0])[j]? = some u → w10.cell? ((⟨g, 0, none⟩ : Addr).add j) = some u := fun g hg => hr10.cells hg
    rcases hr10.2 with ⟨_, h⟩ | ⟨g, cap, cur, rfl, _⟩
    · cases h
    · have c0 := hcells g rfl 0 _ rfl
      have c1 := hcells g rfl 1 _ rfl
      rw [addr_add] at c0 c1
      exact ⟨g, cap, rfl, c0, c1⟩
  clear hb10 hlin hr10
  go_wp2_with fail
  go_ret
  exact ⟨rfl, HB10.out⟩
end Go.Proofs.YtfcaebceklhbkaaDoor
