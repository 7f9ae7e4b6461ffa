/-
  What a bus is begun with: the program's Start (f22), the reference's (f23).
-/
import Derived.Test.YtdmhlhoimaeacaaDoorS7
import Derived.Test.YtdmhlhoimaeacaaDoorS1
namespace Go.Proofs.YtdmhlhoimaeacaaDoor
open Go.RowKit
set_option linter.unusedVariables false

def startF (S : Scr) : List Int := S.tops.flatMap fun t => [t.n, t.s]
def startG (L : List Top) : List Int := L.flatMap fun t => [t.n, t.s]
theorem startG_snoc (L : List Top) (t : Top) : startG (L ++ [t]) = startG L ++ [t.n, t.s] := by simp [startG]
theorem startG_len (L : List Top) : (startG L).length = L.length * 2 := by
  induction L with
  | nil => rfl
  | cons t r ih => show (t.n :: t.s :: startG r).length = _; simp [ih]; omega
theorem take_snoc {α : Type} {L : List α} {i : Nat} (h : i < L.length) (d : α) : L.take (i + 1) = L.take i ++ [L.getD i d] := by
  rw [List.take_succ_eq_append_getElem h]
  simp [List.getD, h]
theorem src_two (w : World) (o1 : Obj) (a b : Value) (T : Nat) (ha : a.oneCell' = true) (hb : b.oneCell' = true) :
    SrcOf ((w.alloc o1).alloc (.cells #[a, b] T)) 1 (.slice (some ⟨w.heap.size + 1, 0, none⟩) 2 2) 2 [a, b] := by
  refine ⟨rfl, (by intro u hu; simp at hu; rcases hu with rfl | rfl <;> assumption), .inr ⟨⟨w.heap.size + 1, 0, none⟩, 2, rfl, fun j u hu => ?_⟩⟩
  have := cells_new (w.alloc o1) #[a, b] T j u hu
  rwa [show (w.alloc o1).heap.size = w.heap.size + 1 by simp] at this
theorem src_two0 (w : World) (a b : Value) (T : Nat) (ha : a.oneCell' = true) (hb : b.oneCell' = true) :
    SrcOf (w.alloc (.cells #[a, b] T)) 1 (.slice (some ⟨w.heap.size, 0, none⟩) 2 2) 2 [a, b] :=
  ⟨rfl, (by intro u hu; simp at hu; rcases hu with rfl | rfl <;> assumption), .inr ⟨⟨w.heap.size, 0, none⟩, 2, rfl, fun j u hu => cells_new w #[a, b] T j u hu⟩⟩
theorem info2 : (Tryd.prog.info? 2).map (fun i => (i.zero, i.size, i.bytes)) = some (some (.int .i64 0), 1, 8) := by kernel_rfl
theorem under50 : Tryd.prog.underlying 50 = some (.slice 2) := by kernel_rfl
theorem tcell_at {w : World} {g o : Nat} {L : List Top} (h : ∀ j, j < (tcells L).length → w.cell? ⟨g, o + j, none⟩ = (tcells L)[j]?) {i : Nat} (hi : i < L.length) :
    w.cell? ⟨g, o + i * 2, none⟩ = some (.int .i64 (L.getD i default).n) ∧ w.cell? ⟨g, o + i * 2 + 1, none⟩ = some (.int .i64 (L.getD i default).s) := by
  have hl := tcells_length L
  have h0 := h (i * 2 + 0) (by omega)
  have h1 := h (i * 2 + 1) (by omega)
  rw [tcells_get L i 0 hi (by omega)] at h0
  rw [tcells_get L i 1 hi (by omega)] at h1
  rw [← Nat.add_assoc] at h0 h1
  exact ⟨h0, h1⟩
theorem two_more {w wr : World} {B : Nat} (hB : w.heap.size = B) {v : Value} {L : List Int} (h : wr.ownsRow B 2 1 v L.length (ncells L)) (hl : Below B w wr) (a b : Int) {wx : World} (hx : Below wr.heap.size wr wx) {v' : Value} {w4 : World}
    (ha : Appended wx B 2 1 v L.length 2 (ncells L ++ [.int .i64 a, .int .i64 b]) v' w4) : w4.ownsRow B 2 1 v' (L ++ [a, b]).length (ncells (L ++ [a, b])) ∧ Below B w w4 := by
  have hs : B ≤ wr.heap.size := by rw [← hB]; exact hl.size
  refine ⟨?_, (hl.trans (hx.mono hs)).grown ha.2.1 (by have := hx.size; omega) (fun q hq => (h.lt q hq).1)⟩
  have e : ncells (L ++ [a, b]) = ncells L ++ [.int .i64 a, .int .i64 b] := by simp [ncells]
  rw [List.length_append, e]
  exact ha.1
/-- What a bus is begun with, as a row of the call's own. -/
def StartD (S : Scr) (w : World) (e : Ending) (w' : World) : Prop :=
  ∃ p c, e = .returned (.slice p (startF S).length c) ∧ w'.ownsRow w.heap.size 2 1 (.slice p (startF S).length c) (startF S).length (ncells (startF S)) ∧ Below w.heap.size w w'

set_option maxRecDepth 100000 in
set_option maxHeartbeats 8000000 in
theorem start_walk (tv hv sv : Value) (V : Nat → Value) (S : Scr) (w : World) (h : ScrAt w tv hv sv V S) (z : SmallS S) :
    Calls Tryd.prog 22 #[.agg #[tv, hv, sv, .int .i64 S.most]] w (StartD S w) := by
  have hb2 : Below w.heap.size w (w.alloc (.cells #[tv, hv, sv, .int .i64 S.most] 27)) := (Below.refl _ _).alloc (Nat.le_refl _) _
  have HA := Lib.hid (h.below hb2)
  have HB2 := Lib.hid hb2
  have HX := Lib.hid (heap_alloc_new w (.cells #[tv, hv, sv, .int .i64 S.most] 27))
  obtain ⟨pt, ct, rfl, _, _⟩ := h.tops
  obtain ⟨ph, ch, rfl, _, _⟩ := h.thrs
  obtain ⟨ps, cs, rfl, _, _⟩ := h.sch
  have hzt : S.tops.length ≤ 4000000 := z.tops
  have HSZ : Hid ((w.alloc (.cells #[.slice pt S.tops.length ct, .slice ph S.thrs.length ch, .slice ps S.sch.length cs, .int .i64 S.most] 27)).heap.size = w.heap.size + 1) := Lib.hid (by simp)
  clear h z hb2
  go_enter Tryd.func22, Tryd.ntmps22
  go_upto_region 2 with fail
  generalize w.alloc (.cells #[.slice pt S.tops.length ct, .slice ph S.thrs.length ch, .slice ps S.sch.length cs, .int .i64 S.most] 27) = w0 at *
  generalize hrb : w.heap.size = rb at *
  have HRBE := Lib.hid hrb
  clear hrb
  have a0 := (cell_of HX.out 0).trans rfl
  generalize htl : S.tops.length = tl at *
  have HTL := Lib.hid htl
  clear htl
  obtain ⟨i2, hi2, z0, z1, z2⟩ := info_parts info2
  go_wp2_with fail
  go_loopw [3, 9] (fun v iv wr => ∃ i : Nat, i ≤ tl ∧ iv = .int .i64 i ∧ wr.ownsRow (rb + 1) 2 1 v (startG (S.tops.take i)).length (ncells (startG (S.tops.take i))) ∧ Below (rb + 1) w0 wr) (fun _ iv _ => tl - (intOf iv).toNat)
  case atStart => exact ⟨0, Nat.zero_le _, rfl, ⟨rfl, .inl ⟨rfl, rfl⟩⟩, Below.refl _ _⟩
  case round =>
    obtain ⟨i, hi, rfl, hrow, hlow⟩ := hrel
    have HROW := Lib.hid hrow
    have HLOW := Lib.hid hlow
    have hAr := HA.out.below (show Below w0.heap.size w0 wr by rw [HSZ.out]; exact hlow)
    have HXr := Lib.hid ((hlow.block rb (Nat.lt_succ_self rb)).trans HX.out)
    have hsz : rb + 1 ≤ wr.heap.size := by have := hlow.size; have := HSZ.out; omega
    clear hrow hlow a0
    by_cases hin : i < tl
    · have hiL : i < S.tops.length := by rw [HTL.out]; exact hin
      obtain ⟨q1, c1, e1, _, hA1⟩ := hAr.tops
      injection e1 with e11 e12 e13
      subst e11
      obtain ⟨ga, oa, rfl, hA2⟩ := hA1.resolve_left (by intro e; have := congrArg List.length e; rw [tcells_length] at this; simp at this; omega)
      obtain ⟨cn, cs2⟩ := tcell_at hA2 hiL
      clear hAr hA1 hA2 e12 e13
      have HTK := Lib.hid (take_snoc hiL default)
      have hgl := startG_len (S.tops.take i)
      have hil : (S.tops.take i).length = i := by simp; omega
      rw [hil] at hgl
      generalize S.tops.getD i default = t at *
      have HSX := Lib.hid (src_two wr (.cells #[.int .i64 t.n, .int .i64 t.s] 62) (.int .i64 t.n) (.int .i64 t.s) 2 rfl rfl)
      have HRA := Lib.hid ((HROW.out.alloc (.cells #[.int .i64 t.n, .int .i64 t.s] 62)).alloc (.cells #[.int .i64 t.n, .int .i64 t.s] 2))
      go_wp2_with (at_builtin; go_must (refine wpList_append_row rfl (.tmp 13) (.tmp 18) 50 rfl (rb + 1) 2 i2 _ 1 8 under50 hi2 z0 z1 (by decide) z2 rfl _ (startG (S.tops.take i)).length (ncells (startG (S.tops.take i))) rfl HRA.out 2 [.int .i64 t.n, .int .i64 t.s] HSX.out ?l2 ?b2 ?n2 ?_); go_must (case l2 => (unfold maxLen; omega)); go_must (case b2 => omega); go_must (case n2 => (simp; omega)); intro v61 w4 ha; go_must (have HAP := Lib.hid ha); clear ha)
      have hm := two_more HSZ.out HROW.out HLOW.out t.n t.s (((Below.refl _ _).alloc (Nat.le_refl _) _).alloc (by simp) _) HAP.out
      go_roundw
      case rel =>
        refine ⟨i + 1, by omega, by go_num, ?_, hm.2⟩
        rw [HTK.out, startG_snoc]
        exact hm.1
      case measure => simp [intOf]; omega
    · have hie : i = tl := by omega
      have hT : startG (S.tops.take i) = startF S := by rw [hie, ← HTL.out, List.take_length]; rfl
      skip
      rw [hT] at HROW
      obtain ⟨p5, c5, hv5⟩ := own_slice HROW.out
      subst hv5
      have hO := own_base HROW.out (Nat.le_succ rb)
      have HO := Lib.hid hO
      have HLF : Hid (Below rb w wr) := Lib.hid (HB2.out.trans (HLOW.out.mono (Nat.le_succ rb)))
      clear hO hT hAr
      go_wp2_with fail
      go_ret
      refine ⟨p5, c5, rfl, ?_, ?_⟩
      · rw [HRBE.out]; exact HO.out
      · rw [HRBE.out]; exact HLF.out
set_option maxRecDepth 100000 in
set_option maxHeartbeats 8000000 in
theorem refStart_walk (tv hv sv : Value) (V : Nat → Value) (S : Scr) (w : World) (h : ScrAt w tv hv sv V S) (z : SmallS S) :
    Calls Tryd.prog 23 #[.agg #[tv, hv, sv, .int .i64 S.most]] w (StartD S w) := by
  have hb2 : Below w.heap.size w (w.alloc (.cells #[tv, hv, sv, .int .i64 S.most] 34)) := (Below.refl _ _).alloc (Nat.le_refl _) _
  have HA := Lib.hid (h.below hb2)
  have HB2 := Lib.hid hb2
  have HX := Lib.hid (heap_alloc_new w (.cells #[tv, hv, sv, .int .i64 S.most] 34))
  obtain ⟨pt, ct, rfl, _, _⟩ := h.tops
  obtain ⟨ph, ch, rfl, _, _⟩ := h.thrs
  obtain ⟨ps, cs, rfl, _, _⟩ := h.sch
  have hzt : S.tops.length ≤ 4000000 := z.tops
  have HSZ : Hid ((w.alloc (.cells #[.slice pt S.tops.length ct, .slice ph S.thrs.length ch, .slice ps S.sch.length cs, .int .i64 S.most] 34)).heap.size = w.heap.size + 1) := Lib.hid (by simp)
  clear h z hb2
  go_enter Tryd.func23, Tryd.ntmps23
  go_upto_region 1 with fail
  generalize w.alloc (.cells #[.slice pt S.tops.length ct, .slice ph S.thrs.length ch, .slice ps S.sch.length cs, .int .i64 S.most] 34) = w0 at *
  generalize hrb : w.heap.size = rb at *
  have HRBE := Lib.hid hrb
  clear hrb
  have a0 := (cell_of HX.out 0).trans rfl
  generalize htl : S.tops.length = tl at *
  have HTL := Lib.hid htl
  clear htl
  obtain ⟨i2, hi2, z0, z1, z2⟩ := info_parts info2
  go_wp2_with fail
  go_loopw [3, 4] (fun v iv wr => ∃ i : Nat, i ≤ tl ∧ iv = .int .i64 i ∧ wr.ownsRow (rb + 1) 2 1 v (startG (S.tops.take i)).length (ncells (startG (S.tops.take i))) ∧ Below (rb + 1) w0 wr) (fun _ iv _ => tl - (intOf iv).toNat)
  case atStart => exact ⟨0, Nat.zero_le _, rfl, ⟨rfl, .inl ⟨rfl, rfl⟩⟩, Below.refl _ _⟩
  case round =>
    obtain ⟨i, hi, rfl, hrow, hlow⟩ := hrel
    have HROW := Lib.hid hrow
    have HLOW := Lib.hid hlow
    have hAr := HA.out.below (show Below w0.heap.size w0 wr by rw [HSZ.out]; exact hlow)
    have HXr := Lib.hid ((hlow.block rb (Nat.lt_succ_self rb)).trans HX.out)
    have hsz : rb + 1 ≤ wr.heap.size := by have := hlow.size; have := HSZ.out; omega
    clear hrow hlow a0
    by_cases hin : i < tl
    · have hiL : i < S.tops.length := by rw [HTL.out]; exact hin
      obtain ⟨q1, c1, e1, _, hA1⟩ := hAr.tops
      injection e1 with e11 e12 e13
      subst e11
      obtain ⟨ga, oa, rfl, hA2⟩ := hA1.resolve_left (by intro e; have := congrArg List.length e; rw [tcells_length] at this; simp at this; omega)
      obtain ⟨cn, cs2⟩ := tcell_at hA2 hiL
      clear hAr hA1 hA2 e12 e13
      have HTK := Lib.hid (take_snoc hiL default)
      have hgl := startG_len (S.tops.take i)
      have hil : (S.tops.take i).length = i := by simp; omega
      rw [hil] at hgl
      generalize S.tops.getD i default = t at *
      have HSX := Lib.hid (src_two0 wr.drew (.int .i64 t.n) (.int .i64 t.s) 2 rfl rfl)
      have HRA := Lib.hid ((own_below HROW.out (Below.refl _ _).drew).alloc (.cells #[.int .i64 t.n, .int .i64 t.s] 2))
      have a0 := (cell_of HXr.out 0).trans rfl
      obtain ⟨v61, w4, hrun, hap⟩ := run_append_row (P := Tryd.prog) (wr.drew.alloc (.cells #[.int .i64 t.n, .int .i64 t.s] 2)) (rb + 1) 50 50 2 i2 _ 1 8 under50 hi2 z0 z1 (by decide) z2 rfl _ _ _ HRA.out _ 2 [.int .i64 t.n, .int .i64 t.s] HSX.out (by unfold maxLen; omega) (by omega) (by simp; omega)
      have HRUN : Hid ((Builtin.append_ #[50, 50] 50 #[u3, .slice (some ⟨wr.heap.size, 0, none⟩) 2 2]).run Tryd.prog (wr.alloc (.cells #[.int .i64 t.n, .int .i64 t.s] 2)).drew = .ok v61 w4) := Lib.hid hrun
      have hm := two_more HSZ.out HROW.out HLOW.out t.n t.s (((Below.refl _ _).drew).alloc (Nat.le_refl _) _) hap
      have HM1 := Lib.hid hm.1
      have HM2 := Lib.hid hm.2
      clear hrun hap hm
      go_upto_region 5 with fail
      go_region_law (refine step_append_runI (by rfl) _ _ 50 50 (by rfl) u3 (.slice (some ⟨wr.heap.size, 0, none⟩) 2 2) (by rfl) (by rfl) HRUN.out ?_)
      all_goals
        go_wp2_with fail
        go_roundw
        case rel =>
          refine ⟨i + 1, by omega, by go_num, ?_, HM2.out⟩
          rw [HTK.out, startG_snoc]
          exact HM1.out
        case measure => simp [intOf]; omega
    · have hie : i = tl := by omega
      have hT : startG (S.tops.take i) = startF S := by rw [hie, ← HTL.out, List.take_length]; rfl
      have a0 := (cell_of HXr.out 0).trans rfl
      rw [hT] at HROW
      obtain ⟨p5, c5, hv5⟩ := own_slice HROW.out
      subst hv5
      have hO := own_base HROW.out (Nat.le_succ rb)
      have HO := Lib.hid hO
      have HLF : Hid (Below rb w wr) := Lib.hid (HB2.out.trans (HLOW.out.mono (Nat.le_succ rb)))
      clear hO hT hAr
      go_wp2_with fail
      go_ret
      refine ⟨p5, c5, rfl, ?_, ?_⟩
      · rw [HRBE.out]; exact HO.out
      · rw [HRBE.out]; exact HLF.out
end Go.Proofs.YtdmhlhoimaeacaaDoor
