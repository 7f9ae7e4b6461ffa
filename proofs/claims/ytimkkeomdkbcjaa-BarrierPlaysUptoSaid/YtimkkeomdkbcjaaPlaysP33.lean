/-
  Merged out of: Ref1 Ref2 Ref3 Ref4 Ref5 Ref6 RefA RefB RefC Ref7. No condition of its own.
-/
import Derived.Test.YtimkkeomdkbcjaaPlaysP32
import Derived.Deep.RegionLaw
import Derived.Test.YtimkkeomdkbcjaaPlaysP21
set_option linter.unusedVariables false
set_option linter.unusedSimpArgs false
/-
  The document's machine: a thread's memory as it changes; Op (f48), End (f49). No condition of its own.
-/
namespace Go.Proofs.Ytimkkeomdkbcjaa
open Go.Conc Go.RowKit
structure ThS (base : Nat) (ow : Nat → Nat) (j tb : Nat) (vo va : Value) (w : World) (ow' : Nat → Nat) (va' : Value) (t' : RT) (w' : World) : Prop where
  th : ThB base ow' j tb vo va' t' w'
  keep : ∀ b, b < w.heap.size → b ≠ tb → va.ownBlock ≠ some b → w'.heap[b]? = w.heap[b]?
  own : ∀ g, g < w.heap.size → ow' g = ow g
  row : ∀ b, b < w.heap.size → va'.ownBlock = some b → va.ownBlock = some b
  size : w.heap.size ≤ w'.heap.size
  os : w'.os = w.os
  tape : w'.tape = w.tape
  output : w'.output = w.output
section
variable {base j tb : Nat} {ow ow' ow'' : Nat → Nat} {vo va va' va'' : Value} {t t' t'' : RT} {w w' w'' : World}
theorem ThS.refl (h : ThB base ow j tb vo va t w) : ThS base ow j tb vo va w ow va t w :=
  ⟨h, fun _ _ _ _ => rfl, fun _ _ => rfl, fun _ _ e => e, Nat.le_refl _, rfl, rfl, rfl⟩
theorem ThS.trans (h : ThS base ow j tb vo va w ow' va' t' w') (k : ThS base ow' j tb vo va' w' ow'' va'' t'' w'') : ThS base ow j tb vo va w ow'' va'' t'' w'' := by
  refine ⟨k.th, fun b hb h1 h2 => ?_, fun g hg => ?_, fun b hb e => ?_, Nat.le_trans h.size k.size, k.os.trans h.os, k.tape.trans h.tape, k.output.trans h.output⟩
  · have := h.size
    exact (k.keep b (by omega) h1 fun z => h2 (h.row b hb z)).trans (h.keep b hb h1 h2)
  · have := h.size
    exact (k.own g (by omega)).trans (h.own g hg)
  · have := h.size
    exact h.row b hb (k.row b (by omega) e)
theorem ThB.alloc (h : ThB base ow j tb vo va t w) (o : Obj) : ThB base ow j tb vo va t (w.alloc o) :=
  ⟨(Below.heap_alloc _ _ _ (Array.getElem?_eq_some_iff.1 h.blk).1).trans h.blk, h.lo, h.rowO.alloc o, h.rowA.alloc o, h.ow⟩
theorem ThS.alloc (h : ThS base ow j tb vo va w ow' va' t' w') (o : Obj) : ThS base ow j tb vo va w ow' va' t' (w'.alloc o) :=
  ⟨h.th.alloc o, fun b hb h1 h2 => (Below.heap_alloc _ _ _ (by have := h.size; omega)).trans (h.keep b hb h1 h2), h.own, h.row, by have := h.size; simp; omega, h.os, h.tape, h.output⟩
theorem ThS.drew (h : ThS base ow j tb vo va w ow' va' t' w') : ThS base ow j tb vo va w ow' va' t' w'.drew := ⟨⟨h.th.blk, h.th.lo, h.th.rowO, h.th.rowA, h.th.ow⟩, h.keep, h.own, h.row, h.size, h.os, h.tape, h.output⟩
theorem ownsRow_set {w : World} {B e sz n : Nat} {v u : Value} {xs : List Value} {tb c : Nat} {t2 : TypeId} {cs : Array Value} (h : w.ownsRow B e sz v n xs) (hb : w.heap[tb]? = some (.cells cs t2 (0, 0))) (ht : e ≠ t2) : (w.setCell ⟨tb, c, none⟩ u).ownsRow B e sz v n xs :=
  ownsRow_keep h fun g o hg hh => by
    obtain ⟨cc, hcc⟩ := ownsRow_type h hg
    rw [Below.heap_setCell _ _ _ _ (fun z => by rw [z, hb] at hcc; simp at hcc; exact ht hcc.2.symm)]
    exact hh
theorem ThS.put (h : ThS base ow j tb vo va w ow' va' t' w') (c : Nat) (v : Value) (hc : (thC vo va' t').set c v = thC vo va' t'') (ho : t''.ops = t'.ops) (ha : t''.ans = t'.ans) : ThS base ow j tb vo va w ow' va' t'' (w'.setCell ⟨tb, c, none⟩ v) := by
  have hb := storedAt h.th.blk c v
  have e : ((thC vo va' t').toArray.setIfInBounds c v) = (thC vo va' t'').toArray := by rw [List.setIfInBounds_toArray, hc]
  rw [e] at hb
  refine ⟨⟨hb, h.th.lo, ?_, ?_, h.th.ow⟩, fun b hb' h1 h2 => (Below.heap_setCell _ _ _ _ h1).trans (h.keep b hb' h1 h2), h.own, h.row, by have := h.size; simp [World.setCell]; omega, h.os, h.tape, h.output⟩
  · rw [ho]; exact ownsRow_set h.th.rowO h.th.blk (by decide)
  · rw [ha]; exact ownsRow_set h.th.rowA h.th.blk (by decide)
end
end Go.Proofs.Ytimkkeomdkbcjaa

/-
  The document's machine: Op (f48), End (f49). No condition of its own.
-/
namespace Go.Proofs.Ytimkkeomdkbcjaa
open Go.Conc Go.RowKit
theorem size94 : (Try.prog.info? 94).map (·.size) = some 4 := by kernel_rfl
def opR (L : List OpD) (i : Nat) : OpD := L.getD i ⟨0, 0, 0, 0⟩
theorem flatO_at : ∀ (l : List OpD) (j : Nat), j < l.length → (flatO l)[j * 4]? = some (.int .i64 (opR l j).kind) ∧ (flatO l)[j * 4 + 1]? = some (.int .i64 (opR l j).a) ∧ (flatO l)[j * 4 + 2]? = some (.int .i64 (opR l j).b) ∧ (flatO l)[j * 4 + 3]? = some (.int .i64 (opR l j).c)
  | [], j, h => by simp at h
  | x :: l, 0, h => by simp [flatO, opR]
  | x :: l, j + 1, h => by
    have e : flatO (x :: l) = [.int .i64 x.kind, .int .i64 x.a, .int .i64 x.b, .int .i64 x.c] ++ flatO l := rfl
    have e2 : opR (x :: l) (j + 1) = opR l j := by simp [opR]
    obtain ⟨q0, q1, q2, q3⟩ := flatO_at l j (by simpa using h)
    rw [e, e2]
    refine ⟨?_, ?_, ?_, ?_⟩
    · rw [List.getElem?_append_right (by simp; omega)]; simpa [show (j + 1) * 4 - 4 = j * 4 by omega] using q0
    · rw [List.getElem?_append_right (by simp; omega)]; simpa [show (j + 1) * 4 + 1 - 4 = j * 4 + 1 by omega] using q1
    · rw [List.getElem?_append_right (by simp; omega)]; simpa [show (j + 1) * 4 + 2 - 4 = j * 4 + 2 by omega] using q2
    · rw [List.getElem?_append_right (by simp; omega)]; simpa [show (j + 1) * 4 + 3 - 4 = j * 4 + 3 by omega] using q3
theorem rowO_at {w : World} {B : Nat} {v : Value} {l : List OpD} (h : w.ownsRow B 94 4 v l.length (flatO l)) {i : Nat} (hi : i < l.length) :
    ∃ g cap, v = .slice (some ⟨g, 0, none⟩) l.length cap ∧ w.cell? ⟨g, i * 4, none⟩ = some (.int .i64 (opR l i).kind) ∧ w.cell? ⟨g, i * 4 + 1, none⟩ = some (.int .i64 (opR l i).a) ∧ w.cell? ⟨g, i * 4 + 2, none⟩ = some (.int .i64 (opR l i).b) ∧ w.cell? ⟨g, i * 4 + 3, none⟩ = some (.int .i64 (opR l i).c) := by
  have fl : (flatO l).length = l.length * 4 := by have := h.1; omega
  rcases h.2 with ⟨rfl, q⟩ | ⟨g, cap, cur, rfl, q1, q2, q3, q4, q5, q6⟩
  · omega
  · obtain ⟨a0, a1, a2, a3⟩ := flatO_at l i hi
    have get : ∀ k, k < l.length * 4 → cur[k]? = (flatO l)[k]? := fun k hk => by
      rw [← q6, List.getElem?_take_of_lt hk]
      simp
    refine ⟨g, cap, rfl, ?_, ?_, ?_, ?_⟩
    · rw [cellAt q2, get _ (by omega)]; exact a0
    · rw [cellAt q2, get _ (by omega)]; exact a1
    · rw [cellAt q2, get _ (by omega)]; exact a2
    · rw [cellAt q2, get _ (by omega)]; exact a3
section
variable {base j tb : Nat} {ow : Nat → Nat} {vo va : Value} {t : RT} {w : World}
theorem ThS.of_below (h : ThB base ow j tb vo va t w) {w' : World} (hb : Below w.heap.size w w') : ThS base ow j tb vo va w ow va t w' :=
  ⟨⟨(hb.block _ (Array.getElem?_eq_some_iff.1 h.blk).1).trans h.blk, h.lo, ownsRow_below rfl hb h.rowO, ownsRow_below rfl hb h.rowA, h.ow⟩, fun b hb' _ _ => hb.block b hb', fun _ _ => rfl, fun _ _ e => e, hb.size, hb.os, hb.tape, hb.output⟩
set_option maxRecDepth 100000 in
set_option maxHeartbeats 1000000 in
theorem op_walk (h : ThB base ow j tb vo va t w) (hi : t.i < t.ops.length) : Calls Try.prog 48 #[.pointer (some ⟨tb, 0, none⟩)] w fun e w' => e = .returned (opV (opR t.ops t.i)) ∧ ThS base ow j tb vo va w ow va t w' := by
  obtain ⟨g, cap, rfl, q0, q1, q2, q3⟩ := rowO_at h.rowO hi
  have c0 := h.cell 0
  have c1 := h.cell 1
  simp only [thC, List.getElem?_cons_zero, List.getElem?_cons_succ] at c0 c1
  have hi' : (t.i : Int) < (t.ops.length : Int) := by omega
  have al : ∀ {a : Addr} {v : Value} (o : Obj), w.cell? a = some v → (w.alloc o).cell? a = some v := fun {a v} o hv => (World.cell?_of_block (w := w) (Below.heap_alloc _ _ _ (World.block_lt_of_cell? w _ hv))).trans hv
  have d0 := al (.cells #[.int .i64 0, .int .i64 0, .int .i64 0, .int .i64 0] 94) q0
  have d1 := al (.cells #[.int .i64 0, .int .i64 0, .int .i64 0, .int .i64 0] 94) q1
  have d2 := al (.cells #[.int .i64 0, .int .i64 0, .int .i64 0, .int .i64 0] 94) q2
  have d3 := al (.cells #[.int .i64 0, .int .i64 0, .int .i64 0, .int .i64 0] 94) q3
  have e0 := al (.cells #[.int .i64 0, .int .i64 0, .int .i64 0, .int .i64 0] 94) c0
  have e1 := al (.cells #[.int .i64 0, .int .i64 0, .int .i64 0, .int .i64 0] 94) c1
  have H1 : Below w.heap.size w (w.alloc (.cells #[.int .i64 0, .int .i64 0, .int .i64 0, .int .i64 0] 94)) := (Below.refl _ _).alloc (Nat.le_refl _) _
  replace H1 := Lib.hid H1
  have EN := heap_alloc_new w (.cells #[.int .i64 0, .int .i64 0, .int .i64 0, .int .i64 0] 94)
  clear al q0 q1 q2 q3 c0 c1
  replace h := Lib.hid h
  have hlt := (Array.getElem?_eq_some_iff.1 h.out.blk).1
  generalize opR t.ops t.i = p at *
  obtain ⟨pk, pa, pb, pc⟩ := p
  simp only at d0 d1 d2 d3
  go_enter Try.func48, Try.ntmps48
  go_upto_region 1 with fail
  generalize w.alloc (.cells #[.int .i64 0, .int .i64 0, .int .i64 0, .int .i64 0] 94) = w1 at *
  have f0 : w1.cell? ⟨w.heap.size, 0, none⟩ = some (.int .i64 0) := by rw [cellAt EN 0]; rfl
  have f1 : w1.cell? ⟨w.heap.size, 1, none⟩ = some (.int .i64 0) := by rw [cellAt EN 1]; rfl
  have f2 : w1.cell? ⟨w.heap.size, 2, none⟩ = some (.int .i64 0) := by rw [cellAt EN 2]; rfl
  have f3 : w1.cell? ⟨w.heap.size, 3, none⟩ = some (.int .i64 0) := by rw [cellAt EN 3]; rfl
  have z0 := freeAt EN 0
  have z1 := freeAt EN 1
  have z2 := freeAt EN 2
  have z3 := freeAt EN 3
  go_region
  obtain ⟨x1, x2, x3⟩ := set4 (x := .int .i64 pk) (y := .int .i64 pa) (z := .int .i64 pb) (u := .int .i64 pc) EN
  have H2 : Below w.heap.size w ((((w1.setCell ⟨w.heap.size, 0, none⟩ (.int .i64 pk)).setCell ⟨w.heap.size, 1, none⟩ (.int .i64 pa)).setCell ⟨w.heap.size, 2, none⟩ (.int .i64 pb)).setCell ⟨w.heap.size, 3, none⟩ (.int .i64 pc)).drew := ((((H1.out.setCell (Nat.le_refl _) _).setCell (Nat.le_refl _) _).setCell (Nat.le_refl _) _).setCell (Nat.le_refl _) _).drew
  replace H2 := Lib.hid (ThS.of_below h.out H2)
  have x1' : ((((w1.setCell ⟨w.heap.size, 0, none⟩ (.int .i64 pk)).setCell ⟨w.heap.size, 1, none⟩ (.int .i64 pa)).setCell ⟨w.heap.size, 2, none⟩ (.int .i64 pb)).setCell ⟨w.heap.size, 3, none⟩ (.int .i64 pc)).drew.heap[w.heap.size]? = _ := x1
  clear x1 x2 x3 f0 f1 f2 f3 z0 z1 z2 z3 d0 d1 d2 d3 e0 e1
  generalize ((((w1.setCell ⟨w.heap.size, 0, none⟩ (.int .i64 pk)).setCell ⟨w.heap.size, 1, none⟩ (.int .i64 pa)).setCell ⟨w.heap.size, 2, none⟩ (.int .i64 pb)).setCell ⟨w.heap.size, 3, none⟩ (.int .i64 pc)).drew = w2 at *
  have f0 : w2.cell? ⟨w.heap.size, 0, none⟩ = some (.int .i64 pk) := by rw [cellAt x1' 0]; rfl
  have f1 : w2.cell? ⟨w.heap.size, 1, none⟩ = some (.int .i64 pa) := by rw [cellAt x1' 1]; rfl
  have f2 : w2.cell? ⟨w.heap.size, 2, none⟩ = some (.int .i64 pb) := by rw [cellAt x1' 2]; rfl
  have f3 : w2.cell? ⟨w.heap.size, 3, none⟩ = some (.int .i64 pc) := by rw [cellAt x1' 3]; rfl
  go_wp2_with fail
  refine bodyPost_ret (results_cell_row (fn := Try.f48) (p := 2) (ty := 94) rfl _ _ w.heap.size 94 _ (0, 0) _ rfl x1' Try.underlying94 rfl size94) rfl ?_
  exact ⟨rfl, H2.out⟩
end
end Go.Proofs.Ytimkkeomdkbcjaa

/-
  The document's machine: End (f49). No condition of its own.
-/
namespace Go.Proofs.Ytimkkeomdkbcjaa
open Go.Conc Go.RowKit
section
variable {base j tb : Nat} {ow ow' : Nat → Nat} {vo va va' v' : Value} {t t' : RT} {w w1 w2 : World}
theorem ThS.answered (h : ThS base ow j tb vo va w ow' va' t' w1) {r : Bool × Int} (hA : AppendedN (w1.alloc (.cells #[.bool r.1, .int .i64 r.2, .slice none 0 0] 97)) base 97 va' t'.ans.length 1 (flatA t'.ans ++ [.bool r.1, .int .i64 r.2, .slice none 0 0]) v' w2) :
    (∃ ow2, ThS base ow j tb vo va w ow2 v' { t' with ans := t'.ans ++ [r] } (w2.setCell ⟨tb, 12, none⟩ v')) ∧ w2.heap[tb]? = some (.cells (thC vo va' t').toArray 116 (0, 0)) := by
  obtain ⟨ho, hg, hsh⟩ := hA
  have h2 := h.alloc (.cells #[.bool r.1, .int .i64 r.2, .slice none 0 0] 97)
  generalize hw : w1.alloc (.cells #[.bool r.1, .int .i64 r.2, .slice none 0 0] 97) = wa at *
  have kt : ∀ {b : Nat} {cs : Array Value} {e : TypeId}, wa.heap[b]? = some (.cells cs e (0, 0)) → e ≠ 97 → w2.heap[b]? = some (.cells cs e (0, 0)) := fun {b cs e} hb he =>
    (hg.block b (Array.getElem?_eq_some_iff.1 hb).1 fun z => by
      obtain ⟨cc, hcc⟩ := ownsRow_type h2.th.rowA z.symm
      rw [hb] at hcc
      simp at hcc
      exact he hcc.2).trans hb
  have ht := kt h2.th.blk (by decide)
  have hs := storedAt ht 12 v'
  refine ⟨⟨fun g => if v'.ownBlock = some g then j else ow' g, ?_⟩, ht⟩
  have e : (thC vo va' t').toArray.setIfInBounds 12 v' = (thC vo v' { t' with ans := t'.ans ++ [r] }).toArray := rfl
  rw [e] at hs
  have inR : ∀ b, v'.ownBlock = some b → va'.ownBlock = some b ∨ wa.heap.size ≤ b := fun b hb => by
    rcases hsh with ⟨e1, e2, _⟩ | ⟨g, cap, e1, _, e3⟩
    · rw [e1] at hb; cases hb
    · rw [e1] at hb
      simp only [Value.ownBlock, Option.some.injEq] at hb
      subst hb
      exact e3
  have hwa : w1.heap.size < wa.heap.size := by rw [← hw]; simp
  have hsz := h.size
  have h2s := hg.size
  refine ⟨⟨hs, h2.th.lo, ?_, ?_, fun g hgg => by simp only [hgg, if_true]⟩, fun b hb h1 h3 => ?_, fun g hgl => ?_, fun b hb hv => ?_, ?_, ?_, ?_, ?_⟩
  · refine ownsRow_set (ownsRow_keep h2.th.rowO fun g o hgo hh => ?_) ht (by decide)
    obtain ⟨cc, hcc⟩ := ownsRow_type h2.th.rowO hgo
    exact (kt hcc (by decide)).trans (hcc.symm.trans hh)
  · have : w2.ownsRow base 97 3 v' (t'.ans ++ [r]).length (flatA (t'.ans ++ [r])) := by
      rw [List.length_append, flatA_snoc]
      exact ho
    exact ownsRow_set this ht (by decide)
  · rw [Below.heap_setCell _ _ _ _ h1]
    refine (hg.block b (by omega) fun z => h3 (h.row b hb z.symm)).trans (h2.keep b hb h1 h3)
  · show (if v'.ownBlock = some g then j else ow' g) = ow g
    split
    · rename_i hv
      rcases inR g hv with q | q
      · rw [← h.th.ow g q]; exact h.own g hgl
      · omega
    · exact h.own g hgl
  · rcases inR b hv with q | q
    · exact h.row b hb q
    · omega
  · simp [World.setCell]; omega
  · exact hg.os.trans h2.os
  · exact hg.tape.trans h2.tape
  · exact hg.output.trans h2.output
theorem ThS.cell (h : ThS base ow j tb vo va w ow' va' t' w1) (k : Nat) : w1.cell? ⟨tb, k, none⟩ = (thC vo va' t')[k]? := h.th.cell k
theorem ThS.free (h : ThS base ow j tb vo va w ow' va' t' w1) (k : Nat) : w1.frozen? ⟨tb, k, none⟩ = false := freeAt h.th.blk k
theorem src_oneN (w1 : World) (r : Bool × Int) : SrcN (w1.alloc (.cells #[.bool r.1, .int .i64 r.2, .slice none 0 0] 97)) (.slice (some ⟨w1.heap.size, 0, none⟩) 1 1) 1 [.bool r.1, .int .i64 r.2, .slice none 0 0] :=
  ⟨rfl, by intro u hu; simp at hu; rcases hu with rfl | rfl | rfl <;> rfl, .inr ⟨_, 1, rfl, fun j u hj => by
    have e : (⟨w1.heap.size, 0, none⟩ : Addr).add j = ⟨w1.heap.size, j, none⟩ := by simp [Addr.add]; try (intro h; exact h.symm)
    rw [e, cellAt (heap_alloc_new w1 (.cells #[.bool r.1, .int .i64 r.2, .slice none 0 0] 97)) j]
    simpa using hj⟩⟩
end
end Go.Proofs.Ytimkkeomdkbcjaa

/-
  The document's machine: End (f49), walked. No condition of its own.
-/
namespace Go.Proofs.Ytimkkeomdkbcjaa
open Go.Conc Go.RowKit
theorem info97r : (Try.prog.info? 97).map (fun i => (i.zero, i.size, i.bytes)) = some (some (.agg #[.bool false, .int .i64 0, .slice none 0 0]), 3, 40) := by kernel_rfl
def endT (t : RT) (r : Bool × Int) : RT := { t with ans := t.ans ++ [r], i := t.i + 1, pc := 0 }
section
variable {base j tb : Nat} {ow : Nat → Nat} {vo va : Value} {t : RT} {w : World}
def DoneEnd (base : Nat) (ow : Nat → Nat) (j tb : Nat) (vo va : Value) (t' : RT) (w : World) (e : Ending) (w' : World) : Prop := e = .returned (.tuple #[]) ∧ ∃ ow' va', ThS base ow j tb vo va w ow' va' t' w'
set_option maxRecDepth 100000 in
set_option maxHeartbeats 1000000 in
theorem end_walk (h : ThB base ow j tb vo va t w) (hb : base ≤ w.heap.size) (hlen : t.ans.length ≤ 100000) (hi : t.i ≤ 100000) (r : Bool × Int) :
    Calls Try.prog 49 #[.pointer (some ⟨tb, 0, none⟩), .agg #[.bool r.1, .int .i64 r.2, .slice none 0 0]] w (DoneEnd base ow j tb vo va (endT t r) w) := by
  obtain ⟨i0, hi0, hz0, hz1, hz2⟩ := info_parts info97r
  have h1 := (ThS.refl h).alloc (.cells #[.bool r.1, .int .i64 r.2, .slice none 0 0] 97)
  have EN := heap_alloc_new w (.cells #[.bool r.1, .int .i64 r.2, .slice none 0 0] 97)
  have hb1 : base ≤ (w.alloc (.cells #[.bool r.1, .int .i64 r.2, .slice none 0 0] 97)).heap.size := by simp; omega
  obtain ⟨p, c, rfl⟩ := slice_of h.rowA
  have hM := Lib.hid (show w.heap.size = w.heap.size from rfl)
  replace h := Lib.hid h
  go_enter Try.func49, Try.ntmps49
  go_upto_region 1 with fail
  generalize w.alloc (.cells #[.bool r.1, .int .i64 r.2, .slice none 0 0] 97) = w1 at *
  generalize hMM : w.heap.size = M at *
  have c12 := h1.cell 12
  simp only [thC, List.getElem?_cons_zero, List.getElem?_cons_succ] at c12
  have b0 : w1.cell? ⟨M, 0, none⟩ = some (.bool r.1) := by rw [cellAt EN 0]; rfl
  have b1 : w1.cell? ⟨M, 1, none⟩ = some (.int .i64 r.2) := by rw [cellAt EN 1]; rfl
  have b2 : w1.cell? ⟨M, 2, none⟩ = some (.slice none 0 0) := by rw [cellAt EN 2]; rfl
  have al : ∀ {a : Addr} {v : Value} (o : Obj), w1.cell? a = some v → (w1.alloc o).cell? a = some v := fun {a v} o hv => (World.cell?_of_block (w := w1) (Below.heap_alloc _ _ _ (World.block_lt_of_cell? w1 _ hv))).trans hv
  have c12' := al (.cells #[.bool r.1, .int .i64 r.2, .slice none 0 0] 97) c12
  clear al
  have HSX := src_oneN w1.drew r
  have HOW := h1.drew.th.rowA.alloc (.cells #[.bool r.1, .int .i64 r.2, .slice none 0 0] 97)
  obtain ⟨v', w2, hrun, ha⟩ := run_append_rowN (P := Try.prog) (w1.drew.alloc (.cells #[.bool r.1, .int .i64 r.2, .slice none 0 0] 97)) base 75 75 97 i0 _ 40 Try.underlying75 hi0 hz0 hz1 hz2 (by rfl) (.slice p t.ans.length c) t.ans.length _ HOW (.slice (some ⟨w1.heap.size, 0, none⟩) 1 1) 1 [.bool r.1, .int .i64 r.2, .slice none 0 0] HSX (by unfold maxLen; omega) (by omega) (by show base ≤ (w1.alloc (.cells #[.bool r.1, .int .i64 r.2, .slice none 0 0] 97)).heap.size; simp; omega)
  have HRUN : Hid ((Builtin.append_ #[75, 75] 75 #[.slice p t.ans.length c, .slice (some ⟨w1.heap.size, 0, none⟩) 1 1]).run Try.prog (w1.alloc (.cells #[.bool r.1, .int .i64 r.2, .slice none 0 0] 97)).drew = .ok v' w2) := Lib.hid hrun
  obtain ⟨⟨ow2, h3⟩, ht2⟩ := h1.drew.answered ha
  obtain ⟨p2, c2, rfl⟩ := slice_of h3.th.rowA
  have d12 : w2.cell? ⟨tb, 12, none⟩ = some (.slice p t.ans.length c) := by rw [cellAt ht2 12]; rfl
  have z12 := freeAt ht2 12
  clear hrun ha HOW HSX ht2
  have el : (t.ans ++ [r]).length = t.ans.length + 1 := by simp
  rw [el] at h3
  replace h1 := Lib.hid h1
  replace h3 := Lib.hid h3
  replace EN := Lib.hid EN
  go_region_law (refine step_append_run (by rfl) _ _ 75 75 (by rfl) (.slice p t.ans.length c) (.slice (some ⟨w1.heap.size, 0, none⟩) 1 1) (by rfl) (by rfl) HRUN.out ?_)
  all_goals
    go_upto_region 2 with fail
    generalize w2.setCell ⟨tb, 12, none⟩ (.slice p2 (t.ans.length + 1) c2) = w3 at *
    have c1 := h3.out.cell 1
    have z1 := h3.out.free 1
    have c2' := h3.out.cell 2
    have z2 := h3.out.free 2
    have c11 := h3.out.cell 11
    have z11 := h3.out.free 11
    simp only [thC, List.getElem?_cons_zero, List.getElem?_cons_succ] at c1 c2' c11
    have h4 := h3.out.put 1 (.int .i64 ((t.i : Int) + 1)) (t'' := { t with ans := t.ans ++ [r], i := t.i + 1 }) rfl rfl rfl
    have h5 := h4.put 2 (.int .i64 0) (t'' := endT t r) rfl rfl rfl
    have h6 := Lib.hid (h5.put 11 (.slice none 0 0) (t'' := endT t r) rfl rfl rfl)
    clear h4 h5
    go_wp2_with fail
    go_end0
    exact ⟨rfl, _, _, h6.out⟩
end
end Go.Proofs.Ytimkkeomdkbcjaa

/-
  The document's machine: over (f64), walked. No condition of its own.
-/
namespace Go.Proofs.Ytimkkeomdkbcjaa
open Go.Conc Go.RowKit
theorem op_f1 (k a b c : Int) (w : World) : (Instr.field 94 (.agg #[.int .i64 k, .int .i64 a, .int .i64 b, .int .i64 c]) 1).run Try.prog w = .ok (.int .i64 a) w := by kernel_rfl
theorem op_f2 (k a b c : Int) (w : World) : (Instr.field 94 (.agg #[.int .i64 k, .int .i64 a, .int .i64 b, .int .i64 c]) 2).run Try.prog w = .ok (.int .i64 b) w := by kernel_rfl
theorem op_f3 (k a b c : Int) (w : World) : (Instr.field 94 (.agg #[.int .i64 k, .int .i64 a, .int .i64 b, .int .i64 c]) 3).run Try.prog w = .ok (.int .i64 c) w := by kernel_rfl
def triesR (x : Int) : Int := min (max x 1) 1024
def overT (t : RT) : RT :=
  if t.n0 + 1 = triesR (opR t.ops t.i).b then endT { t with n0 := t.n0 + 1 } (false, 4)
  else { t with n0 := t.n0 + 1, n1 := if (opR t.ops t.i).c = 2 then t.n1 else 0, pc := if (opR t.ops t.i).c = 3 ∧ (t.n0 + 1) % 8 ≠ 0 then 11 else 10 }
section
variable {base j tb : Nat} {ow : Nat → Nat} {vo va : Value} {t : RT} {w : World}
theorem op_at (h : ThB base ow j tb vo va t w) (hi : t.i < t.ops.length) {k a b c : Int} (hp : opR t.ops t.i = ⟨k, a, b, c⟩) : Calls Try.prog 48 #[.pointer (some ⟨tb, 0, none⟩)] w fun e w' => e = .returned (.agg #[.int .i64 k, .int .i64 a, .int .i64 b, .int .i64 c]) ∧ ThS base ow j tb vo va w ow va t w' := by
  have := op_walk h hi
  rw [hp] at this
  exact this
set_option maxRecDepth 100000 in
set_option maxHeartbeats 1000000 in
theorem over_walk (h : ThB base ow j tb vo va t w) (hb : base ≤ w.heap.size) (hlen : t.ans.length ≤ 100000) (hi : t.i < t.ops.length) (hi2 : t.ops.length ≤ 100000) (hn0 : 0 ≤ t.n0) (hn1 : t.n0 ≤ 100000) :
    Calls Try.prog 64 #[.pointer (some ⟨tb, 0, none⟩)] w (DoneEnd base ow j tb vo va (overT t) w) := by
  have c3 := h.cell 3
  simp only [thC, List.getElem?_cons_zero, List.getElem?_cons_succ] at c3
  have z3 := freeAt h.blk 3
  have h1 := Lib.hid ((((ThS.refl h).put 3 (.int .i64 (t.n0 + 1)) (t'' := { t with n0 := t.n0 + 1 }) rfl rfl rfl)).drew)
  replace h := Lib.hid h
  go_enter Try.func64, Try.ntmps64
  go_wp2_with fail
  go_region
  go_upto_region 1 with fail
  generalize (w.setCell ⟨tb, 3, none⟩ (.int .i64 (t.n0 + 1))).drew = w1 at *
  clear c3 z3
  have c3 := h1.out.cell 3
  simp only [thC, List.getElem?_cons_zero, List.getElem?_cons_succ] at c3
  have HT : overT t = if t.n0 + 1 = triesR (opR t.ops t.i).b then endT { t with n0 := t.n0 + 1 } (false, 4) else { t with n0 := t.n0 + 1, n1 := if (opR t.ops t.i).c = 2 then t.n1 else 0, pc := if (opR t.ops t.i).c = 3 ∧ (t.n0 + 1) % 8 ≠ 0 then 11 else 10 } := rfl
  replace HT := Lib.hid HT
  generalize overT t = tt at *
  generalize hq : opR t.ops t.i = q at *
  replace hq := Lib.hid hq
  obtain ⟨pk, pa, pb, pc⟩ := q
  have HOP := op_at h1.out.drew.th hi hq.out
  replace HOP := Lib.hid HOP
  have F2 := op_f2 pk pa pb pc
  have F3 := op_f3 pk pa pb pc
  go_region_with (first
    | (go_at_call 48; refine HOP.out.mono ?_; rintro e w2 ⟨rfl, g⟩; have G2 := Lib.hid (h1.out.drew.trans g); have c3' := G2.out.cell 3; simp only [thC, List.getElem?_cons_zero, List.getElem?_cons_succ] at c3'; replace g := Lib.hid g)
    | (go_at_call 69; refine (tries_walk _ _).mono ?_; rintro e w3 ⟨rfl, hw3⟩; obtain rfl := hw3.symm))
  all_goals
    clear c3 c3'
    replace h1 := Lib.hid h1
    have hs2 : base ≤ w2.heap.size := by have := G2.out.size; omega
    by_cases heq : t.n0 + 1 = min (max pb 1) 1024
    · have HE := end_walk G2.out.th hs2 hlen (by show t.i ≤ 100000; omega) (false, 4)
      simp only at HE
      replace HE := Lib.hid HE
      go_wp2_with (go_at_call 49; refine HE.out.mono ?_; rintro e w3 ⟨rfl, ow3, va3, g3⟩; have G3 := Lib.hid (G2.out.trans g3); clear g3)
      go_end0
      refine ⟨rfl, ow3, va3, ?_⟩
      rw [HT.out, if_pos (by unfold triesR; exact heq)]
      exact G3.out
    · go_upto_region 3 with fail
      have z2 := G2.out.free 2
      have c2 := G2.out.cell 2
      simp only [thC, List.getElem?_cons_zero, List.getElem?_cons_succ] at c2
      have G3 := G2.out.put 2 (.int .i64 10) (t'' := { t with n0 := t.n0 + 1, pc := 10 }) rfl rfl rfl
      go_upto_region 4 with fail
      generalize w2.setCell ⟨tb, 2, none⟩ (.int .i64 10) = w3 at *
      clear c2 z2
      have HO3 := op_at G3.th hi hq.out
      replace HO3 := Lib.hid HO3
      replace G3 := Lib.hid G3
      have hrem : (t.n0 + 1).tmod 8 = (t.n0 + 1) % 8 := Int.tmod_eq_emod_of_nonneg (by omega)
      by_cases hc2 : pc = 2
      · subst hc2
        go_upto_region 6 with (go_at_call 48; refine HO3.out.mono ?_; rintro e w4 ⟨rfl, g4⟩; have G4 := Lib.hid (G3.out.trans g4); clear g4)
        have HO4 := op_at G4.out.th hi hq.out
        replace HO4 := Lib.hid HO4
        go_wp2_with (go_at_call 48; refine HO4.out.mono ?_; rintro e w5 ⟨rfl, g5⟩; have G5 := Lib.hid (G4.out.trans g5); clear g5)
        go_end0
        refine ⟨rfl, ow, va, ?_⟩
        rw [HT.out, if_neg (by unfold triesR; exact heq), if_pos trivial, if_neg (by simp)]
        exact G5.out
      · go_upto_region 5 with (go_at_call 48; refine HO3.out.mono ?_; rintro e w4 ⟨rfl, g4⟩; have G4 := Lib.hid (G3.out.trans g4); clear g4)
        have z4 := G4.out.free 4
        have c4 := G4.out.cell 4
        simp only [thC, List.getElem?_cons_zero, List.getElem?_cons_succ] at c4
        have G5 := G4.out.put 4 (.int .i64 0) (t'' := { t with n0 := t.n0 + 1, pc := 10, n1 := 0 }) rfl rfl rfl
        go_upto_region 6 with fail
        generalize w4.setCell ⟨tb, 4, none⟩ (.int .i64 0) = w5 at *
        clear c4 z4
        have HO5 := op_at G5.th hi hq.out
        replace HO5 := Lib.hid HO5
        replace G5 := Lib.hid G5
        by_cases hc3 : pc = 3
        · subst hc3
          by_cases h8 : (t.n0 + 1) % 8 = 0
          · go_wp2_with (go_at_call 48; refine HO5.out.mono ?_; rintro e w6 ⟨rfl, g6⟩; have G6 := Lib.hid (G5.out.trans g6); clear g6; have c3 := G6.out.cell 3; simp only [thC, List.getElem?_cons_zero, List.getElem?_cons_succ] at c3)
            go_end0
            refine ⟨rfl, ow, va, ?_⟩
            rw [HT.out, if_neg (by unfold triesR; exact heq), if_neg (by simp [h8]), if_neg (by simp)]
            exact G6.out
          · go_upto_region 7 with (go_at_call 48; refine HO5.out.mono ?_; rintro e w6 ⟨rfl, g6⟩; have G6 := Lib.hid (G5.out.trans g6); clear g6; have c3 := G6.out.cell 3; simp only [thC, List.getElem?_cons_zero, List.getElem?_cons_succ] at c3)
            have z2 := G6.out.free 2
            have c2 := G6.out.cell 2
            simp only [thC, List.getElem?_cons_zero, List.getElem?_cons_succ] at c2
            have G7 := Lib.hid (G6.out.put 2 (.int .i64 11) (t'' := { t with n0 := t.n0 + 1, pc := 11, n1 := 0 }) rfl rfl rfl)
            go_wp2_with fail
            go_end0
            refine ⟨rfl, ow, va, ?_⟩
            rw [HT.out, if_neg (by unfold triesR; exact heq), if_pos (by simp [h8]), if_neg (by simp)]
            exact G7.out
        · go_wp2_with (go_at_call 48; refine HO5.out.mono ?_; rintro e w6 ⟨rfl, g6⟩; have G6 := Lib.hid (G5.out.trans g6); clear g6)
          go_end0
          refine ⟨rfl, ow, va, ?_⟩
          rw [HT.out, if_neg (by unfold triesR; exact heq), if_neg hc2, if_neg (by simp [hc3])]
          exact G6.out
end
end Go.Proofs.Ytimkkeomdkbcjaa

/-
  The document's machine: its words; source (f51), walked. No condition of its own.
-/
namespace Go.Proofs.Ytimkkeomdkbcjaa
open Go.Conc Go.RowKit
structure MV (base mb : Nat) (vw vth : Value) (ws : List Int) (al : Bool) (w : World) : Prop where
  blk : w.heap[mb]? = some (.cells #[vw, .bool al, vth] 85 (0, 0))
  rowW : w.ownsRow base 2 1 vw ws.length (intsL ws)
section
variable {base mb j tb : Nat} {ow ow' : Nat → Nat} {vw vth vo va va' : Value} {ws : List Int} {al : Bool} {t t' : RT} {w w' : World}
theorem ThS.other (ht : ThB base ow j tb vo va t w) (h : ThS base ow j tb vo va w ow' va' t' w') {b : Nat} {cs : Array Value} {e : TypeId} (hb : w.heap[b]? = some (.cells cs e (0, 0))) (h1 : e ≠ 116) (h2 : e ≠ 97) : w'.heap[b]? = some (.cells cs e (0, 0)) := by
  refine (h.keep b (Array.getElem?_eq_some_iff.1 hb).1 (fun z => ?_) fun z => ?_).trans hb
  · rw [z, ht.blk] at hb
    simp at hb
    exact h1 hb.2.symm
  · obtain ⟨cc, hcc⟩ := ownsRow_type ht.rowA z
    rw [hb] at hcc
    simp at hcc
    exact h2 hcc.2
theorem ThS.rowOther (ht : ThB base ow j tb vo va t w) (h : ThS base ow j tb vo va w ow' va' t' w') {B e sz n : Nat} {v : Value} {xs : List Value} (hr : w.ownsRow B e sz v n xs) (h1 : e ≠ 116) (h2 : e ≠ 97) : w'.ownsRow B e sz v n xs :=
  ownsRow_keep hr fun g o hg hh => by
    obtain ⟨cc, hcc⟩ := ownsRow_type hr hg
    rw [← hh, hcc]
    exact h.other ht hcc h1 h2
theorem MV.thS (hM : MV base mb vw vth ws al w) (ht : ThB base ow j tb vo va t w) (h : ThS base ow j tb vo va w ow' va' t' w') : MV base mb vw vth ws al w' :=
  ⟨h.other ht hM.blk (by decide) (by decide), h.rowOther ht hM.rowW (by decide) (by decide)⟩
theorem MV.drew (h : MV base mb vw vth ws al w) : MV base mb vw vth ws al w.drew := ⟨h.blk, h.rowW⟩
theorem MV.alloc (h : MV base mb vw vth ws al w) (o : Obj) : MV base mb vw vth ws al (w.alloc o) := ⟨(Below.heap_alloc _ _ _ (Array.getElem?_eq_some_iff.1 h.blk).1).trans h.blk, h.rowW.alloc o⟩
theorem MV.word (h : MV base mb vw vth ws al w) {k : Nat} (hk : k < ws.length) : ∃ g cap, vw = .slice (some ⟨g, 0, none⟩) ws.length cap ∧ w.cell? ⟨g, k, none⟩ = some (.int .i64 (ws.getD k 0)) ∧ w.frozen? ⟨g, k, none⟩ = false ∧ g ≠ mb := by
  obtain ⟨p, cap, e1, _, q⟩ := row_cells h.rowW
  obtain ⟨g, c, e2, _, hg, hc⟩ := q (by omega)
  subst e2
  refine ⟨g, cap, e1, ?_, freeAt hg k, fun z => ?_⟩
  · rw [cellAt hg k, hc k hk]
    simp [intsL, hk, List.getD_eq_getElem?_getD]
  · rw [z, h.blk] at hg
    simp at hg
def srcN2 (t : RT) (v : Int) : Int := if t.n1 = 0 ∨ v < t.n2 then v else t.n2
def DoneSrc (base : Nat) (ow : Nat → Nat) (j tb : Nat) (vo va : Value) (t' : RT) (v : Int) (last : Bool) (w : World) (e : Ending) (w' : World) : Prop := e = .returned (.tuple #[.int .i64 v, .bool last]) ∧ ThS base ow j tb vo va w ow va t' w'
set_option maxRecDepth 100000 in
set_option maxHeartbeats 1000000 in
theorem source_walk (hM : MV base mb vw vth ws al w) (h : ThB base ow j tb vo va t w) {k : Nat} (hk : t.n1 = k) (hkw : k < ws.length) (hlen : ws.length ≤ 100000) :
    Calls Try.prog 51 #[.pointer (some ⟨mb, 0, none⟩), .pointer (some ⟨tb, 0, none⟩)] w (DoneSrc base ow j tb vo va { t with n2 := srcN2 t (ws.getD k 0) } (ws.getD k 0) (decide (k + 1 = ws.length)) w) := by
  obtain ⟨g, cap, rfl, q0, _, _⟩ := hM.word hkw
  have m0 : w.cell? ⟨mb, 0, none⟩ = some (.slice (some ⟨g, 0, none⟩) ws.length cap) := by rw [cellAt hM.blk 0]; rfl
  have c4 := h.cell 4
  have c5 := h.cell 5
  simp only [thC, List.getElem?_cons_zero, List.getElem?_cons_succ] at c4 c5
  have z5 := freeAt h.blk 5
  rw [hk] at c4
  have hk' : (k : Int) < (ws.length : Int) := by omega
  have hS2 : srcN2 t (ws.getD k 0) = if t.n1 = 0 ∨ ws.getD k 0 < t.n2 then ws.getD k 0 else t.n2 := rfl
  rw [hk] at hS2
  replace hk := Lib.hid hk
  have h0 := ThS.refl h
  have mne : mb ≠ tb := fun z => by have := hM.blk; rw [z, h.blk] at this; simp at this
  have gne : g ≠ tb := fun z => by
    obtain ⟨cc, hcc⟩ := ownsRow_type hM.rowW (g := g) rfl
    rw [z, h.blk] at hcc
    simp at hcc
  generalize hs2 : srcN2 t (ws.getD k 0) = n2' at *
  generalize ws.getD k 0 = v at *
  replace h := Lib.hid h
  replace hM := Lib.hid hM
  have hput := Lib.hid (fun (w1 : World) (h1 : ThS base ow j tb vo va w ow va t w1) => h1.put 5 (.int .i64 v) (t'' := { t with n2 := v }) rfl rfl rfl)
  replace h0 := Lib.hid h0
  replace hS2 := Lib.hid hS2
  go_enter Try.func51, Try.ntmps51
  go_wp2_with fail
  go_region
  have e1 : IntKind.i64.wrap ((ws.length : Int) - 1) = (ws.length : Int) - 1 := by rw [IntKind.wrap_i64]; omega
  have hd : Hid (((k : Int) == (ws.length : Int) - 1) = decide (k + 1 = ws.length)) := Lib.hid (by
    by_cases hl : k + 1 = ws.length
    · simp [hl]; omega
    · simp [hl]; omega)
  by_cases hz : (k : Int) = 0
  · have en : n2' = v := by rw [hS2.out]; exact if_pos (.inl hz)
    subst en
    have hz' : k = 0 := by omega
    go_upto_region 4 with fail
    have H3 : ThS base ow j tb vo va w ow va { t with n2 := n2' } (w.setCell ⟨tb, 5, none⟩ (.int .i64 n2')).drew := (h0.out.put 5 (.int .i64 n2') (t'' := { t with n2 := n2' }) rfl rfl rfl).drew
    have M3 := hM.out.thS h.out H3
    generalize (w.setCell ⟨tb, 5, none⟩ (.int .i64 n2')).drew = w3 at *
    have d4 := H3.cell 4
    simp only [thC, List.getElem?_cons_zero, List.getElem?_cons_succ] at d4
    rw [hk.out] at d4
    have d0 : w3.cell? ⟨mb, 0, none⟩ = some (.slice (some ⟨g, 0, none⟩) ws.length cap) := by rw [cellAt M3.blk 0]; rfl
    replace H3 := Lib.hid H3
    replace M3 := Lib.hid M3
    clear c4 c5 z5 m0 q0
    go_region
    go_wp2_with fail
    go_ret2
    exact ⟨by rw [← hd.out]; first | rfl | (rw [hz]; rfl), H3.out.drew⟩
  · by_cases hv : v < t.n2
    · have en : n2' = v := by rw [hS2.out]; exact if_pos (.inr hv)
      subst en
      go_upto_region 4 with fail
      have H3 : ThS base ow j tb vo va w ow va { t with n2 := n2' } (w.setCell ⟨tb, 5, none⟩ (.int .i64 n2')).drew := (h0.out.put 5 (.int .i64 n2') (t'' := { t with n2 := n2' }) rfl rfl rfl).drew
      have M3 := hM.out.thS h.out H3
      generalize (w.setCell ⟨tb, 5, none⟩ (.int .i64 n2')).drew = w3 at *
      have d4 := H3.cell 4
      simp only [thC, List.getElem?_cons_zero, List.getElem?_cons_succ] at d4
      rw [hk.out] at d4
      have d0 : w3.cell? ⟨mb, 0, none⟩ = some (.slice (some ⟨g, 0, none⟩) ws.length cap) := by rw [cellAt M3.blk 0]; rfl
      replace H3 := Lib.hid H3
      replace M3 := Lib.hid M3
      clear c4 c5 z5 m0 q0
      go_region
      go_wp2_with fail
      go_ret2
      exact ⟨by rw [← hd.out]; first | rfl | (rw [hz]; rfl), H3.out.drew⟩
    · have en : n2' = t.n2 := by rw [hS2.out]; exact if_neg (by rintro (q | q); exact hz q; exact hv q)
      subst en
      go_upto_region 4 with fail
      have H3 := h0.out.drew
      have M3 := hM.out.drew
      generalize w.drew = w3 at *
      have d4 := H3.cell 4
      simp only [thC, List.getElem?_cons_zero, List.getElem?_cons_succ] at d4
      rw [hk.out] at d4
      have d0 : w3.cell? ⟨mb, 0, none⟩ = some (.slice (some ⟨g, 0, none⟩) ws.length cap) := by rw [cellAt M3.blk 0]; rfl
      replace H3 := Lib.hid H3
      replace M3 := Lib.hid M3
      clear c4 c5 z5 m0 q0
      go_region
      go_wp2_with fail
      go_ret2
      exact ⟨by rw [← hd.out]; first | rfl | (rw [hz]; rfl), H3.out.drew⟩
end
end Go.Proofs.Ytimkkeomdkbcjaa

/-
  The document's machine: State (f37), walked. No condition of its own.
-/
namespace Go.Proofs.Ytimkkeomdkbcjaa
open Go.Conc Go.RowKit
def DoneSt (ws : List Int) (al : Bool) (w : World) (e : Ending) (w' : World) : Prop := ∃ v, e = .returned v ∧ w'.ownsRow w.heap.size 2 1 v (ws.length + 1) (intsL (ws ++ [bit al])) ∧ Below w.heap.size w w'
theorem intsL_one (l : List Int) : ∀ u ∈ intsL l, u.oneCell' = true := fun u hu => by
  obtain ⟨x, _, rfl⟩ := List.mem_map.1 hu
  rfl
set_option maxRecDepth 100000 in
set_option maxHeartbeats 1000000 in
theorem stateR_walk {base mb : Nat} {vw vth : Value} {ws : List Int} {al : Bool} {w : World} (hM : MV base mb vw vth ws al w) (hlen : ws.length ≤ 100000) : Calls Try.prog 37 #[.pointer (some ⟨mb, 0, none⟩)] w (DoneSt ws al w) := by
  obtain ⟨i1, hi1, hz1, hz11, hz12⟩ := info_parts info2
  have m0 : w.cell? ⟨mb, 0, none⟩ = some vw := by rw [cellAt hM.blk 0]; rfl
  have hmb := (Array.getElem?_eq_some_iff.1 hM.blk).1
  obtain ⟨vp, vc, hvw⟩ := slice_of hM.rowW
  rw [hvw] at m0
  have HS0 := Lib.hid (src_row (by have := hM.rowW; rw [hvw] at this; exact this) (intsL_one ws))
  have hil := Lib.hid (intsL_len ws)
  replace hM := Lib.hid hM
  replace hvw := Lib.hid hvw
  generalize hN : w.heap.size = N at *
  replace hN := Lib.hid hN
  have HO0 := Lib.hid (World.ownsRow_nil w N 2 1)
  go_enter Try.func37, Try.ntmps37
  go_upto_region 3 with (at_builtin; (refine wpList_append_row rfl (.tmp 4) (.tmp 8) 28 rfl N 2 i1 _ _ Try.underlying28 hi1 hz1 hz11 hz12 rfl (.slice none 0 0) 0 _ rfl HO0.out ws.length _ HS0.out ?l2 ?b2 ?n2 ?_); (case l2 => (unfold maxLen; omega)); (case b2 => omega); (case n2 => (have := hN.out; omega)); intro v1 w1 ha; obtain ⟨ho, hg, hsh⟩ := ha; have H1 := Lib.hid ho; have B1 := Lib.hid (grown_below HO0.out (Below.refl _ _) (by have := hN.out; omega) hg); clear ho hg hsh)
  have H1' : w1.ownsRow N 2 1 v1 ws.length (intsL ws) := by have := H1.out; rw [Nat.zero_add, List.nil_append] at this; exact this
  obtain ⟨p1, c1, rfl⟩ := slice_of H1'
  have hsz := Lib.hid (hN.out ▸ B1.out.size)
  have m1 : w1.cell? ⟨mb, 1, none⟩ = some (.bool al) := by rw [cellAt ((B1.out.block mb hmb).trans hM.out.blk) 1]; rfl
  have HSx := fun x => Lib.hid (src_one2 w1 (.int .i64 x) 2 rfl)
  have HO1 := fun x => Lib.hid (H1'.alloc (.cells #[.int .i64 x] 2))
  clear H1
  cases al with
  | true =>
    have HSx := HSx 1
    have HO1 := HO1 1
    go_wp2_with (at_builtin; (refine wpList_append_row rfl (.tmp 14) (.tmp 15) 28 rfl N 2 i1 _ _ Try.underlying28 hi1 hz1 hz11 hz12 rfl (.slice p1 ws.length c1) ws.length _ rfl HO1.out 1 _ HSx.out ?l2 ?b2 ?n2 ?_); (case l2 => (unfold maxLen; omega)); (case b2 => omega); (case n2 => (have h1 := hsz.out; simp; omega)); intro v2 w2 ha; obtain ⟨ho, hg, hsh⟩ := ha; have HH := Lib.hid ho; have HB2 := Lib.hid (grown_below HO1.out (B1.out.alloc hsz.out _) (by have h1 := hsz.out; simp; omega) hg); clear ho hg hsh)
    go_ret
    unfold DoneSt
    rw [hN.out, intsL_snoc]
    exact ⟨_, rfl, HH.out, HB2.out⟩
  | false =>
    have HSx := HSx 0
    have HO1 := HO1 0
    go_wp2_with (at_builtin; (refine wpList_append_row rfl (.tmp 17) (.tmp 18) 28 rfl N 2 i1 _ _ Try.underlying28 hi1 hz1 hz11 hz12 rfl (.slice p1 ws.length c1) ws.length _ rfl HO1.out 1 _ HSx.out ?l2 ?b2 ?n2 ?_); (case l2 => (unfold maxLen; omega)); (case b2 => omega); (case n2 => (have h1 := hsz.out; simp; omega)); intro v2 w2 ha; obtain ⟨ho, hg, hsh⟩ := ha; have HH := Lib.hid ho; have HB2 := Lib.hid (grown_below HO1.out (B1.out.alloc hsz.out _) (by have h1 := hsz.out; simp; omega) hg); clear ho hg hsh)
    go_ret
    unfold DoneSt
    rw [hN.out, intsL_snoc]
    exact ⟨_, rfl, HH.out, HB2.out⟩
end Go.Proofs.Ytimkkeomdkbcjaa

/-
  The document's machine: whose turn it is; NewTurn (f34), walked. No condition of its own.
-/
namespace Go.Proofs.Ytimkkeomdkbcjaa
open Go.Conc Go.RowKit
structure TU where
  sch : List Int
  pos : Nat
  rnd : Nat
  most : Int
  ord : List Int
  stuck : Bool
def tuC (vs vo : Value) (u : TU) : List Value := [vs, .int .i64 u.pos, .int .i64 u.rnd, .int .i64 u.most, vo, .bool u.stuck]
structure TuB (base ub : Nat) (vs vo : Value) (u : TU) (w : World) : Prop where
  blk : w.heap[ub]? = some (.cells (tuC vs vo u).toArray 120 (0, 0))
  lo : base ≤ ub
  rowS : w.ownsRow base 3 1 vs u.sch.length (intsL u.sch)
  rowO : w.ownsRow base 3 1 vo u.ord.length (intsL u.ord)
  ne : ∀ g, vs.ownBlock = some g → vo.ownBlock ≠ some g
def NilV (v : Value) : Prop := ∀ n c, v = .slice none n c → c = 0
theorem src_ints {w w' : World} {v : Value} {xs : List Int} (h : IntsIn w v xs) (hnil : NilV v) (hk : ∀ b, b < w.heap.size → w'.heap[b]? = w.heap[b]?) : SrcOf w' v xs.length (intsL xs) := by
  obtain ⟨_, a, cap, rfl, hcap, q⟩ := h
  refine ⟨intsL_len xs, intsL_one xs, ?_⟩
  by_cases hx : xs = []
  · subst hx
    cases a with
    | none =>
      by_cases hc : cap = 0
      · subst hc; exact .inl ⟨rfl, rfl⟩
      · exact absurd (hnil _ _ rfl) hc
    | some ad => exact .inr ⟨ad, cap, rfl, fun j u hj => by simp [intsL] at hj⟩
  · obtain ⟨b, o, rfl, hc⟩ := q hx
    refine .inr ⟨_, cap, rfl, fun j u hj => ?_⟩
    have hlt := (List.getElem?_eq_some_iff.1 hj).1
    rw [intsL_len] at hlt
    have e : (⟨b, o, none⟩ : Addr).add j = ⟨b, o + j, none⟩ := by simp [Addr.add]; try (intro h; exact h)
    rw [e]
    have hx := hc j xs[j] (List.getElem?_eq_getElem hlt)
    have hu : u = .int .i64 xs[j] := by
      simp [intsL, hlt] at hj
      exact hj.symm
    rw [hu]
    exact cell_keep hk hx
def DoneTurn (base : Nat) (sch : List Int) (most : Int) (w : World) (e : Ending) (w' : World) : Prop :=
  ∃ ub vs, e = .returned (.pointer (some ⟨ub, 0, none⟩)) ∧ w.heap.size ≤ ub ∧ TuB base ub vs (.slice none 0 0) ⟨sch, 0, 0, min (max most 0) 1048576, [], false⟩ w' ∧ Below w.heap.size w w'
set_option maxRecDepth 100000 in
set_option maxHeartbeats 1000000 in
theorem newTurn_walk {w : World} {v : Value} {sch : List Int} (h : IntsIn w v sch) (hnil : NilV v) (hlen : sch.length ≤ 1048576) (most : Int) : Calls Try.prog 34 #[v, .int .i64 most] w (DoneTurn w.heap.size sch most w) := by
  obtain ⟨i1, hi1, hz1, hz11, hz12⟩ := info_parts info3
  have HS0 := Lib.hid (src_ints (w' := w.alloc (.cells #[.slice none 0 0, .int .i64 0, .int .i64 0, .int .i64 most, .slice none 0 0, .bool false] 120)) h hnil fun b hb => Below.heap_alloc _ _ _ hb)
  have E1 := heap_alloc_new w (.cells #[.slice none 0 0, .int .i64 0, .int .i64 0, .int .i64 most, .slice none 0 0, .bool false] 120)
  have B1 : Below w.heap.size w (w.alloc (.cells #[.slice none 0 0, .int .i64 0, .int .i64 0, .int .i64 most, .slice none 0 0, .bool false] 120)) := (Below.refl _ _).alloc (Nat.le_refl _) _
  obtain ⟨_, ap, ac, rfl, _, _⟩ := h
  have hil := Lib.hid (intsL_len sch)
  clear hnil
  go_enter Try.func34, Try.ntmps34
  go_upto_region 2 with fail
  generalize w.alloc (.cells #[.slice none 0 0, .int .i64 0, .int .i64 0, .int .i64 most, .slice none 0 0, .bool false] 120) = w1 at *
  generalize hN : w.heap.size = N at *
  replace hN := Lib.hid hN
  have HO0 := Lib.hid (World.ownsRow_nil w1 N 3 1)
  have hsz : N ≤ w1.heap.size := by have := (Array.getElem?_eq_some_iff.1 E1).1; omega
  have u0 : w1.cell? ⟨N, 0, none⟩ = some (.slice none 0 0) := by rw [cellAt E1 0]; rfl
  replace B1 := Lib.hid B1
  replace hsz := Lib.hid hsz
  replace E1 := Lib.hid E1
  go_upto_region 3 with (at_builtin; (refine wpList_append_row rfl (.tmp 13) (.tmp 14) 57 rfl N 3 i1 _ _ Try.underlying57 hi1 hz1 hz11 hz12 rfl (.slice none 0 0) 0 _ rfl HO0.out sch.length _ HS0.out ?l2 ?b2 ?n2 ?_); (case l2 => (unfold maxLen; omega)); (case b2 => omega); (case n2 => (have := hsz.out; omega)); intro v2 w2 ha; obtain ⟨ho, hg, hsh⟩ := ha; have E2 := (hg.block N (Array.getElem?_eq_some_iff.1 E1.out).1 (by simp [Value.ownBlock])).trans E1.out; have B2 := Lib.hid (grown_below HO0.out B1.out hsz.out hg); have d0 : w2.cell? ⟨N, 0, none⟩ = some (.slice none 0 0) := (by rw [cellAt E2 0]; rfl); have y0 := freeAt E2 0; have ho' : w2.ownsRow N 3 1 v2 sch.length (intsL sch) := (by rw [Nat.zero_add, List.nil_append] at ho; exact ho); obtain ⟨p2, c2, rfl⟩ := slice_of ho'; have H2 := Lib.hid ho'; replace E2 := Lib.hid E2; clear ho ho' hg hsh)
  have E3 := storedAt E2.out 0 (.slice p2 sch.length c2)
  simp only [List.setIfInBounds_toArray, List.set_cons_zero] at E3
  have B3 : Below N w (w2.setCell ⟨N, 0, none⟩ (.slice p2 sch.length c2)) := B2.out.setCell (Nat.le_refl _) _
  have H3 : (w2.setCell ⟨N, 0, none⟩ (.slice p2 sch.length c2)).ownsRow N 3 1 (.slice p2 sch.length c2) sch.length (intsL sch) := ownsRow_set H2.out E2.out (by decide)
  generalize w2.setCell ⟨N, 0, none⟩ (.slice p2 sch.length c2) = w3 at *
  clear d0 y0
  have d3 : w3.cell? ⟨N, 3, none⟩ = some (.int .i64 most) := by rw [cellAt E3 3]; rfl
  have y3 := freeAt E3 3
  replace B3 := Lib.hid B3
  replace H3 := Lib.hid H3
  have fin : Hid (∀ (m : Int) (w4 : World), w4.heap[N]? = some (.cells (tuC (.slice p2 sch.length c2) (.slice none 0 0) ⟨sch, 0, 0, m, [], false⟩).toArray 120 (0, 0)) → w4.ownsRow N 3 1 (.slice p2 sch.length c2) sch.length (intsL sch) → m = min (max most 0) 1048576 → Below N w w4 → DoneTurn N sch most w (.returned (.pointer (some ⟨N, 0, none⟩))) w4) := Lib.hid fun m w4 a b c d => by
    subst c
    exact ⟨N, _, rfl, by rw [hN.out]; exact Nat.le_refl _, ⟨a, Nat.le_refl _, b, World.ownsRow_nil _ _ _ _, fun g _ z => by simp [Value.ownBlock] at z⟩, by rw [hN.out]; exact d⟩
  by_cases h0 : most < 0
  · have E4 := Lib.hid (storedAt E3 3 (.int .i64 0))
    have B4 := Lib.hid (B3.out.setCell (p := ⟨N, 3, none⟩) (Nat.le_refl N) (.int .i64 0))
    have H4 := Lib.hid (ownsRow_set (c := 3) (u := .int .i64 0) H3.out E3 (by decide))
    replace E3 := Lib.hid E3
    go_wp2_with fail
    go_ret
    exact fin.out 0 _ E4.out H4.out (by omega) B4.out
  · by_cases h1 : 1048576 < most
    · have E4 := Lib.hid (storedAt E3 3 (.int .i64 1048576))
      have B4 := Lib.hid (B3.out.setCell (p := ⟨N, 3, none⟩) (Nat.le_refl N) (.int .i64 1048576))
      have H4 := Lib.hid (ownsRow_set (c := 3) (u := .int .i64 1048576) H3.out E3 (by decide))
      replace E3 := Lib.hid E3
      go_wp2_with fail
      go_ret
      exact fin.out 1048576 _ E4.out H4.out (by omega) B4.out
    · replace E3 := Lib.hid E3
      go_wp2_with fail
      go_ret
      exact fin.out most _ E3.out H3.out (by omega) B3.out
end Go.Proofs.Ytimkkeomdkbcjaa

/-
  The document's machine: Threads (f32), walked. No condition of its own.
-/
namespace Go.Proofs.Ytimkkeomdkbcjaa
open Go.Conc Go.RowKit
def newT (L : List OpD) : RT := ⟨L, 0, 0, 0, 0, 0, [], false⟩
structure ThI (w0 : World) (B : Nat) (L : List OpD) (vo : Value) (w : World) : Prop where
  blk : w.heap[B]? = some (.cells (thC vo (.slice none 0 0) (newT L)).toArray 116 (0, 0))
  row : w.ownsRow B 94 4 vo L.length (flatO L)
  low : Below B w0 w
  lt : B < w.heap.size
theorem ThI.more {w0 w w1 : World} {B : Nat} {L : List OpD} {vo v' : Value} (h : ThI w0 B L vo w) {o : OpD} (hA : AppendedQ (w.alloc (.cells #[.int .i64 o.kind, .int .i64 o.a, .int .i64 o.b, .int .i64 o.c] 94)) B 94 vo L.length 1 (flatO L ++ [.int .i64 o.kind, .int .i64 o.a, .int .i64 o.b, .int .i64 o.c]) v' w1) :
    w1.heap[B]? = some (.cells (thC vo (.slice none 0 0) (newT L)).toArray 116 (0, 0)) ∧ ThI w0 B (L ++ [o]) v' (w1.setCell ⟨B, 0, none⟩ v') := by
  obtain ⟨ho, hg, hsh⟩ := hA
  have h2 := h.row.alloc (.cells #[.int .i64 o.kind, .int .i64 o.a, .int .i64 o.b, .int .i64 o.c] 94)
  have hb : (w.alloc (.cells #[.int .i64 o.kind, .int .i64 o.a, .int .i64 o.b, .int .i64 o.c] 94)).heap[B]? = some (.cells (thC vo (.slice none 0 0) (newT L)).toArray 116 (0, 0)) := (Below.heap_alloc _ _ _ h.lt).trans h.blk
  have hB : w1.heap[B]? = some (.cells (thC vo (.slice none 0 0) (newT L)).toArray 116 (0, 0)) := (hg.block B (Array.getElem?_eq_some_iff.1 hb).1 fun z => by
    obtain ⟨cc, hcc⟩ := ownsRow_type h2 z.symm
    rw [hb] at hcc
    simp at hcc).trans hb
  have hs := storedAt hB 0 v'
  have hl := h.lt
  have hsz := hg.size
  refine ⟨hB, hs, ?_, ?_, ?_⟩
  · have : w1.ownsRow B 94 4 v' (L ++ [o]).length (flatO (L ++ [o])) := by rw [List.length_append, flatO_snoc]; exact ho
    exact ownsRow_set this hB (by decide)
  · exact (grown_belowQ h2 (h.low.alloc (Nat.le_of_lt hl) _) (by simp; omega) hg).setCell (Nat.le_refl _) _
  · simp [World.setCell]; simp at hsz; omega
structure ThA (w0 : World) (N : Nat) (LL : List (List OpD)) (tb : Nat → Nat) (vo : Nat → Value) (j : Nat) (v : Value) (w : World) : Prop where
  row : w.ownsRow N 87 1 v j ((List.range j).map fun i => .pointer (some ⟨tb i, 0, none⟩))
  th : ∀ i, i < j → w.heap[tb i]? = some (.cells (thC (vo i) (.slice none 0 0) (newT ((LL.getD i []).take 65536))).toArray 116 (0, 0)) ∧ w.ownsRow N 94 4 (vo i) ((LL.getD i []).take 65536).length (flatO ((LL.getD i []).take 65536)) ∧ N ≤ tb i
  inj : ∀ i k, i < j → k < j → tb i = tb k → i = k
  low : Below N w0 w
  nw : N ≤ w.heap.size
theorem ThA.more {w0 w w1 w2 : World} {N B : Nat} {LL : List (List OpD)} {tb : Nat → Nat} {vo : Nat → Value} {j : Nat} {v v' u : Value} (h : ThA w0 N LL tb vo j v w) (hB : B = w.heap.size) (hI : ThI w B ((LL.getD j []).take 65536) u w1)
    (hA : Appended (w1.alloc (.cells #[.pointer (some ⟨B, 0, none⟩)] 87)) N 87 v j 1 (((List.range j).map fun i => .pointer (some ⟨tb i, 0, none⟩)) ++ [.pointer (some ⟨B, 0, none⟩)]) v' w2) :
    (∃ g cap, v' = .slice (some ⟨g, 0, none⟩) (j + 1) cap) ∧ ThA w0 N LL (Go.ConcN.upd tb j B) (Go.ConcN.upd vo j u) (j + 1) v' w2 := by
  obtain ⟨ho, hg, hsh⟩ := hA
  have hlow : Below w.heap.size w w1 := hB ▸ hI.low
  have hNB : N ≤ B := by rw [hB]; exact h.nw
  have h1 : w1.ownsRow N 87 1 v j ((List.range j).map fun i => .pointer (some ⟨tb i, 0, none⟩)) := ownsRow_below rfl hlow h.row
  have h2 := h1.alloc (.cells #[.pointer (some ⟨B, 0, none⟩)] 87)
  have lt1 := hI.lt
  have kp : ∀ {b : Nat} {cs : Array Value} {e : TypeId}, w1.heap[b]? = some (.cells cs e (0, 0)) → e ≠ 87 → w2.heap[b]? = some (.cells cs e (0, 0)) := fun {b cs e} hb he => by
    have hb' : (w1.alloc (.cells #[.pointer (some ⟨B, 0, none⟩)] 87)).heap[b]? = some (.cells cs e (0, 0)) := (Below.heap_alloc _ _ _ (Array.getElem?_eq_some_iff.1 hb).1).trans hb
    refine (hg.block b (Array.getElem?_eq_some_iff.1 hb').1 fun z => ?_).trans hb'
    obtain ⟨cc, hcc⟩ := ownsRow_type h2 z.symm
    rw [hb'] at hcc
    simp at hcc
    exact he hcc.2
  have kr : ∀ {x : Value} {m : Nat} {ys : List Value}, w1.ownsRow N 94 4 x m ys → w2.ownsRow N 94 4 x m ys := fun {x m ys} hx => ownsRow_keep hx fun g o hgo hh => by
    obtain ⟨cc, hcc⟩ := ownsRow_type hx hgo
    exact (kp hcc (by decide)).trans (hcc.symm.trans hh)
  refine ⟨?_, ?_, fun i hi => ?_, fun i k hi hk e => ?_, ?_, ?_⟩
  · rcases hsh with ⟨_, _, z, _⟩ | ⟨g, cap, e, _⟩
    · cases z
    · exact ⟨g, cap, e⟩
  · rw [List.range_succ, List.map_append]
    have e : (List.range j).map (fun i => Value.pointer (some ⟨Go.ConcN.upd tb j B i, 0, none⟩)) = (List.range j).map fun i => .pointer (some ⟨tb i, 0, none⟩) := List.map_congr_left fun i hi => by
      have := List.mem_range.1 hi
      rw [Go.ConcN.upd_ne _ _ (by omega)]
    rw [e]
    simp only [List.map_cons, List.map_nil, Go.ConcN.upd_same]
    exact ho
  · by_cases z : i = j
    · subst z
      rw [Go.ConcN.upd_same, Go.ConcN.upd_same]
      exact ⟨kp hI.blk (by decide), kr (ownsRow_base hNB hI.row), hNB⟩
    · rw [Go.ConcN.upd_ne _ _ z, Go.ConcN.upd_ne _ _ z]
      obtain ⟨a, b, c⟩ := h.th i (by omega)
      exact ⟨kp ((hlow.block _ (Array.getElem?_eq_some_iff.1 a).1).trans a) (by decide), kr (ownsRow_below rfl hlow b), c⟩
  · have lt : ∀ i, i < j → tb i < B := fun i hi => by rw [hB]; exact (Array.getElem?_eq_some_iff.1 (h.th i hi).1).1
    by_cases zi : i = j <;> by_cases zk : k = j
    · omega
    · subst zi
      rw [Go.ConcN.upd_same, Go.ConcN.upd_ne _ _ zk] at e
      have := lt k (by omega); omega
    · subst zk
      rw [Go.ConcN.upd_same, Go.ConcN.upd_ne _ _ zi] at e
      have := lt i (by omega); omega
    · rw [Go.ConcN.upd_ne _ _ zi, Go.ConcN.upd_ne _ _ zk] at e
      exact h.inj i k (by omega) (by omega) e
  · exact grown_belowQ h2 ((h.low.trans (hlow.mono h.nw)).alloc (by omega) _) (by simp; omega) hg
  · have := hg.size; simp at this; omega
end Go.Proofs.Ytimkkeomdkbcjaa

/-
  The document's machine: wait (f50), walked. No condition of its own.
-/
namespace Go.Proofs.Ytimkkeomdkbcjaa
open Go.Conc Go.RowKit
def waitM (t : RT) (v : Int) (last : Bool) : RT :=
  if (opR t.ops t.i).c = 2 then
    if v < (opR t.ops t.i).a then overT t
    else if last then endT { t with n2 := srcN2 t v } (true, srcN2 t v)
    else overT { t with n2 := srcN2 t v, n1 := t.n1 + 1 }
  else if last then
    if (opR t.ops t.i).a ≤ srcN2 t v then endT { t with n2 := srcN2 t v, n1 := t.n1 + 1 } (true, srcN2 t v)
    else overT { t with n2 := srcN2 t v, n1 := t.n1 + 1 }
  else { t with n2 := srcN2 t v, n1 := t.n1 + 1 }
section
variable {base mb j tb : Nat} {ow : Nat → Nat} {vw vth vo va : Value} {ws : List Int} {al : Bool} {t : RT} {w : World}
structure RTok (t : RT) : Prop where
  ans : t.ans.length ≤ 100000
  i : t.i < t.ops.length
  ops : t.ops.length ≤ 100000
  n0 : 0 ≤ t.n0 ∧ t.n0 ≤ 100000
set_option maxRecDepth 100000 in
set_option maxHeartbeats 2000000 in
theorem wait_walk (hM : MV base mb vw vth ws al w) (h : ThB base ow j tb vo va t w) (hb : base ≤ w.heap.size) (ho : RTok t) {k : Nat} (hk : t.n1 = k) (hkw : k < ws.length) (hlen : ws.length ≤ 100000) :
    Calls Try.prog 50 #[.pointer (some ⟨mb, 0, none⟩), .pointer (some ⟨tb, 0, none⟩)] w (DoneEnd base ow j tb vo va (waitM t (ws.getD k 0) (decide (k + 1 = ws.length))) w) := by
  obtain ⟨hans, hi, hops, hn0a, hn0b⟩ := ho
  have HT := Lib.hid (show waitM t (ws.getD k 0) (decide (k + 1 = ws.length)) = _ from rfl)
  generalize hwt : waitM t (ws.getD k 0) (decide (k + 1 = ws.length)) = tt at *
  unfold waitM at hwt
  generalize hq : opR t.ops t.i = q at *
  obtain ⟨pk, pa, pb, pc⟩ := q
  simp only at hwt
  have F1 := op_f1 pk pa pb pc
  have F3 := op_f3 pk pa pb pc
  have HO1 := Lib.hid (op_at h hi hq)
  have hsk := Lib.hid (fun (w1 : World) (g1 : ThS base ow j tb vo va w ow va t w1) => source_walk (hM.thS h g1) g1.th hk hkw hlen)
  generalize hv : ws.getD k 0 = v at *
  replace hv := Lib.hid hv
  generalize hlb : decide (k + 1 = ws.length) = lb at *
  replace hlb := Lib.hid hlb
  replace hwt := Lib.hid hwt
  replace hq := Lib.hid hq
  replace hM := Lib.hid hM
  replace h := Lib.hid h
  replace hk := Lib.hid hk
  clear HT
  go_enter Try.func50, Try.ntmps50
  go_upto_region 1 with (go_at_call 48; refine HO1.out.mono ?_; rintro e w1 ⟨rfl, g1⟩; have G1 := Lib.hid g1; clear g1)
  have HO2 := Lib.hid (op_at G1.out.th hi hq.out)
  by_cases hc2 : pc = 2
  · subst hc2
    go_upto_region 3 with (go_at_call 48; refine HO2.out.mono ?_; rintro e w2 ⟨rfl, g2⟩; have G2 := Lib.hid (G1.out.trans g2); clear g2; have c5 := G2.out.cell 5; simp only [thC, List.getElem?_cons_zero, List.getElem?_cons_succ] at c5)
    have HS := Lib.hid (hsk.out _ G2.out)
    go_upto_region 4 with (go_at_call 51; refine HS.out.mono ?_; rintro e w3 ⟨rfl, g3⟩; have G3 := Lib.hid (G2.out.trans g3); clear g3)
    rw [hv.out, hlb.out] at *
    by_cases hvq : v < pa
    · have z5 := G3.out.free 5
      have d5 := G3.out.cell 5
      simp only [thC, List.getElem?_cons_zero, List.getElem?_cons_succ] at d5
      have G4 : ThS base ow j tb vo va w ow va t (w3.setCell ⟨tb, 5, none⟩ (.int .i64 t.n2)) := G3.out.put 5 (.int .i64 t.n2) (t'' := t) rfl rfl rfl
      go_upto_region 6 with fail
      generalize w3.setCell ⟨tb, 5, none⟩ (.int .i64 t.n2) = w4 at *
      have HV := Lib.hid (over_walk G4.th (Nat.le_trans hb G4.size) hans hi hops hn0a hn0b)
      replace G4 := Lib.hid G4
      go_wp2_with (go_at_call 64; refine HV.out.mono ?_; rintro e w5 ⟨rfl, ow5, va5, g5⟩; have G5 := Lib.hid (G4.out.trans g5); clear g5)
      go_end0
      refine ⟨rfl, ow5, va5, ?_⟩
      rw [← hwt.out, if_pos trivial, if_pos hvq]
      exact G5.out
    · cases lb with
      | true =>
        have HE := end_walk G3.out.th (Nat.le_trans hb G3.out.size) hans (by show t.i ≤ 100000; omega) (true, srcN2 t v)
        simp only at HE
        replace HE := Lib.hid HE
        have d5 := G3.out.cell 5
        simp only [thC, List.getElem?_cons_zero, List.getElem?_cons_succ] at d5
        go_wp2_with (go_at_call 49; refine HE.out.mono ?_; rintro e w5 ⟨rfl, ow5, va5, g5⟩; have G5 := Lib.hid (G3.out.trans g5); clear g5)
        go_end0
        refine ⟨rfl, ow5, va5, ?_⟩
        rw [← hwt.out, if_pos trivial, if_neg (by omega), if_pos trivial]
        exact G5.out
      | false =>
        have c4 := G3.out.cell 4
        have z4 := G3.out.free 4
        simp only [thC, List.getElem?_cons_zero, List.getElem?_cons_succ] at c4
        rw [hk.out] at c4
        have G4 : ThS base ow j tb vo va w ow va { t with n2 := srcN2 t v, n1 := t.n1 + 1 } (w3.setCell ⟨tb, 4, none⟩ (.int .i64 ((k : Int) + 1))).drew := by
          have := (G3.out.put 4 (.int .i64 (t.n1 + 1)) (t'' := { t with n2 := srcN2 t v, n1 := t.n1 + 1 }) rfl rfl rfl).drew
          rw [hk.out] at this ⊢
          exact this
        go_upto_region 9 with fail
        go_region
        go_upto_region 10 with fail
        generalize (w3.setCell ⟨tb, 4, none⟩ (.int .i64 ((k : Int) + 1))).drew = w4 at *
        have HV := Lib.hid (over_walk G4.th (Nat.le_trans hb G4.size) hans hi hops hn0a hn0b)
        replace G4 := Lib.hid G4
        clear c4 z4
        go_wp2_with (go_at_call 64; refine HV.out.mono ?_; rintro e w5 ⟨rfl, ow5, va5, g5⟩; have G5 := Lib.hid (G4.out.trans g5); clear g5)
        go_end0
        refine ⟨rfl, ow5, va5, ?_⟩
        rw [← hwt.out, if_pos trivial, if_neg (by omega), if_neg (by simp)]
        exact G5.out
  · go_upto_region 11 with (go_at_call 48; refine HO2.out.mono ?_; rintro e w2 ⟨rfl, g2⟩; have G2 := Lib.hid (G1.out.trans g2); clear g2)
    have HS := Lib.hid (hsk.out _ G2.out)
    go_upto_region 12 with (go_at_call 51; refine HS.out.mono ?_; rintro e w3 ⟨rfl, g3⟩; have G3 := Lib.hid (G2.out.trans g3); clear g3)
    rw [hv.out, hlb.out] at *
    have c4 := G3.out.cell 4
    have z4 := G3.out.free 4
    simp only [thC, List.getElem?_cons_zero, List.getElem?_cons_succ] at c4
    rw [hk.out] at c4
    have G4 : ThS base ow j tb vo va w ow va { t with n2 := srcN2 t v, n1 := t.n1 + 1 } (w3.setCell ⟨tb, 4, none⟩ (.int .i64 ((k : Int) + 1))).drew := by
      have := (G3.out.put 4 (.int .i64 (t.n1 + 1)) (t'' := { t with n2 := srcN2 t v, n1 := t.n1 + 1 }) rfl rfl rfl).drew
      rw [hk.out] at this ⊢
      exact this
    go_region
    go_upto_region 13 with fail
    generalize (w3.setCell ⟨tb, 4, none⟩ (.int .i64 ((k : Int) + 1))).drew = w4 at *
    clear c4 z4
    cases lb with
    | false =>
      replace G4 := Lib.hid G4
      go_wp2_with fail
      refine bodyPost_ret (results_none rfl _ _ _) rfl ?_
      refine ⟨rfl, ow, va, ?_⟩
      rw [← hwt.out, if_neg hc2, if_neg (by simp)]
      exact G4.out
    | true =>
      have d5 := G4.cell 5
      simp only [thC, List.getElem?_cons_zero, List.getElem?_cons_succ] at d5
      by_cases hge : pa ≤ srcN2 t v
      · have HE := end_walk G4.th (Nat.le_trans hb G4.size) hans (by show t.i ≤ 100000; omega) (true, srcN2 t v)
        simp only at HE
        replace HE := Lib.hid HE
        replace G4 := Lib.hid G4
        go_wp2_with (go_at_call 49; refine HE.out.mono ?_; rintro e w5 ⟨rfl, ow5, va5, g5⟩; have G5 := Lib.hid (G4.out.trans g5); clear g5)
        go_end0
        refine ⟨rfl, ow5, va5, ?_⟩
        rw [← hwt.out, if_neg hc2, if_pos trivial, if_pos hge]
        exact G5.out
      · have HV := Lib.hid (over_walk G4.th (Nat.le_trans hb G4.size) hans hi hops hn0a hn0b)
        replace G4 := Lib.hid G4
        go_wp2_with (go_at_call 64; refine HV.out.mono ?_; rintro e w5 ⟨rfl, ow5, va5, g5⟩; have G5 := Lib.hid (G4.out.trans g5); clear g5)
        go_end0
        refine ⟨rfl, ow5, va5, ?_⟩
        rw [← hwt.out, if_neg hc2, if_pos trivial, if_neg (by omega)]
        exact G5.out
end
end Go.Proofs.Ytimkkeomdkbcjaa
