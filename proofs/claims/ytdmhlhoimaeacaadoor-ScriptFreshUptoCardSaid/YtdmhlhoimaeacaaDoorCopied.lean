/-
  The law's copied (f16): a script in new memory, with spare room.
-/
import Derived.Test.YtdmhlhoimaeacaaDoorCopyF
import Derived.Test.YtdmhlhoimaeacaaDoorRefPrint
namespace Go.Proofs.YtdmhlhoimaeacaaDoor
open Go.RowKit
set_option linter.unusedVariables false

theorem wp_make {P : Program} {o : Oper} {a : Act} {w : World} {K : Act → World → Prop} {Q : Exit → Act → World → Prop} {l c : Operand} {t : TypeId} (ho : o.op = .makeSlice t l c)
    {x y v : Value} {w' : World} (hl : a.eval l = x) (hc : a.eval c = y) (hr : (Instr.makeSlice t x y).run P w = .ok v w') (h : K (a.put o.dst v) w') : Oper.wp P o a w K Q := by
  unfold Oper.wp execOp
  simp only [ho, Sem.run_bind, Sem.run_pure, Result.andThen_ok, hl, hc, hr]
  exact h

/-- The rows that copied leaves. -/
def CopyD (S : Scr) (w : World) (e : Ending) (w' : World) : Prop :=
  ∃ tv hv sv V, e = .returned (.agg #[tv, hv, sv, .int .i64 S.most]) ∧ RowsS w' w.heap.size 62 58 tv hv sv V S ∧ Below w.heap.size w w'

set_option maxRecDepth 100000 in
set_option maxHeartbeats 8000000 in
theorem copied_walk (tv hv sv : Value) (V : Nat → Value) (S : Scr) (w : World) (h : ScrAt w tv hv sv V S) (z : SmallS S) (tn : NilE tv) (sn : NilE sv) (vn : ∀ i, i < S.thrs.length → NilE (V i)) :
    Calls Tryd.prog 16 #[.agg #[tv, hv, sv, .int .i64 S.most]] w (CopyD S w) := by
  have HVN := Lib.hid vn
  have HTS : Hid (SrcOf w 2 tv S.tops.length (tcells S.tops)) := Lib.hid (h.tops.src (tcells_length _) (tcells_one _) (fun c e => tn _ c e))
  have HSS : Hid (SrcOf w 1 sv S.sch.length (ncells S.sch)) := Lib.hid (h.sch.src (by simp [ncells]) (by intro u hu; simp only [ncells, List.mem_map] at hu; obtain ⟨i, _, rfl⟩ := hu; rfl) (fun c e => sn _ c e))
  obtain ⟨pt, ct, rfl, hct, _⟩ := h.tops
  obtain ⟨ph, ch, rfl, hch, _⟩ := h.thrs
  obtain ⟨ps, cs, rfl, hcs, _⟩ := h.sch
  have HA := Lib.hid h
  have hzt : S.tops.length ≤ 4000000 := z.tops
  have hzh : S.thrs.length ≤ 4000000 := z.thrs
  have hzs : S.sch.length ≤ 4000000 := z.sch
  have HZO := Lib.hid z.ops
  obtain ⟨W2, hW2⟩ : ∃ W2, W2 = (((w.alloc (.cells #[.slice pt S.tops.length ct, .slice ph S.thrs.length ch, .slice ps S.sch.length cs, .int .i64 S.most] 27)).alloc (.cells #[.slice none 0 0, .slice none 0 0, .slice none 0 0, .int .i64 0] 27)).alloc (.cells #[.slice none 0 0, .slice none 0 0, .slice none 0 0, .int .i64 S.most] 27)) := ⟨_, rfl⟩
  have hs1 : (w.alloc (.cells #[.slice pt S.tops.length ct, .slice ph S.thrs.length ch, .slice ps S.sch.length cs, .int .i64 S.most] 27)).heap.size = w.heap.size + 1 := by simp
  have hs2 : ((w.alloc (.cells #[.slice pt S.tops.length ct, .slice ph S.thrs.length ch, .slice ps S.sch.length cs, .int .i64 S.most] 27)).alloc (.cells #[.slice none 0 0, .slice none 0 0, .slice none 0 0, .int .i64 0] 27)).heap.size = w.heap.size + 2 := by simp
  have HI0 : Hid (CopyI w W2 w.heap.size #[.slice pt S.tops.length ct, .slice ph S.thrs.length ch, .slice ps S.sch.length cs, .int .i64 S.most] S.most (.slice none 0 0) (.slice none 0 0) (.slice none 0 0) (fun _ => .slice none 0 0) ⟨[], [], [], S.most⟩) := Lib.hid (by
    rw [hW2]
    refine ⟨(Below.heap_alloc _ _ _ (by omega)).trans ((Below.heap_alloc _ _ _ (by omega)).trans (heap_alloc_new w _)), (Below.heap_alloc _ _ _ (by omega)).trans (by rw [← hs1]; exact heap_alloc_new _ _), by rw [← hs2]; exact heap_alloc_new _ _, (((Below.refl _ _).alloc (Nat.le_refl _) _).alloc (by omega) _).alloc (by omega) _, ?_⟩
    exact ⟨World.ownsRow_nil _ _ _ _, World.ownsRow_nil _ _ _ _, World.ownsRow_nil _ _ _ _, fun i hi => by simp at hi, fun i j hi => by simp at hi⟩)
  have HW2 := Lib.hid hW2
  clear h z hs1 hs2 hW2 tn sn
  clear vn
  go_enter Tryd.func16, Tryd.ntmps16
  go_upto_region 2 with fail
  rw [← HW2.out]
  rw [show w.heap.size + 1 + 1 = w.heap.size + 2 from rfl]
  clear HW2
  generalize hrb : w.heap.size = rb at *
  have HRBE := Lib.hid hrb
  have HSS2 := Lib.hid (HSS.out.below (show Below w.heap.size w W2 by rw [hrb]; exact HI0.out.low))
  clear hrb HSS
  generalize htl : S.tops.length = tl at *
  generalize hhl : S.thrs.length = hl at *
  generalize hsl : S.sch.length = sl at *
  have HTL := Lib.hid htl
  have HHL := Lib.hid hhl
  have HSL := Lib.hid hsl
  clear htl hhl hsl
  have hwr : IntKind.i64.wrap ((sl : Int) + 2) = (sl : Int) + 2 := (by rw [IntKind.wrap_i64]; omega)
  have q0 : W2.drew.cell? ⟨rb, 2, none⟩ = some (.slice ps sl cs) := (cell_of HI0.out.src 2).trans rfl
  have q1 : rb < W2.drew.heap.size := by have := HI0.out.size; show rb < W2.heap.size; omega
  obtain ⟨ob, pS, cS, w4, hmk, hap, hrow, hb4⟩ := copy_row (P := Tryd.prog) W2.drew 25 25 3 under25 info3 (by omega) (by omega) rfl HSS2.out.drew hzs
  have hb5 : Below W2.heap.size W2 w4 := ((Below.refl W2.heap.size W2).drew).trans hb4
  have hc1 := HI0.out.sch (L := S.sch) hb5 (by rw [HSL.out]; exact hrow)
  simp only at hc1
  have k1 : (W2.drew.alloc ob).cell? ⟨rb, 2, none⟩ = some (.slice ps sl cs) := (World.cell?_alloc_some _ _ _ (by rw [q0]; rfl)).trans q0
  have k2 : w4.cell? ⟨rb, 2, none⟩ = some (.slice ps sl cs) := (hb4.cell q1).trans q0
  have k3 : (w4.setCell ⟨rb + 2, 2, none⟩ (.slice pS sl cS)).cell? ⟨rb, 2, none⟩ = some (.slice ps sl cs) := (cell_of hc1.src 2).trans rfl
  have c4 := HI0.out.below hb5
  have d1 : w4.cell? ⟨rb + 2, 2, none⟩ = some (.slice none 0 0) := (cell_of c4.out 2).trans rfl
  have d2 := free_of c4.out 2
  clear hrow c4
  have HI1 := Lib.hid hc1
  have HB4 := Lib.hid hb5
  clear hc1 hb4 hb5
  refine wp_region_held_drew (S := fun w' => w'.cell? ⟨rb, 2, none⟩ = some (.slice ps sl cs)) (by kernel_rfl) q0 (fun hHeld => ?_)
  refine takeH (i := 0) (v := ?v1) rfl (by kernel_rfl) (by kernel_rfl) (by kernel_rfl) (fun _ _ _ h => h) (by rfl) (by assumption) ?hy1 ?rest1
  case hy1 => (intro w hSw; (try dsimp only at hSw); first | (go_simp; done) | (go_simp; with_reducible rfl))
  try simp only [Act.put, List.setIfInBounds_toArray, List.set_cons_zero, List.set_cons_succ]
  refine takeH (i := 1) (v := ?v2) rfl (by kernel_rfl) (by kernel_rfl) (by kernel_rfl) (fun _ _ _ h => h) (by rfl) (by assumption) ?hy2 ?rest2
  case hy2 => (intro w hSw; (try dsimp only at hSw); first | (go_simp; done) | (go_simp; with_reducible rfl))
  try simp only [Act.put, List.setIfInBounds_toArray, List.set_cons_zero, List.set_cons_succ]
  refine takeH (i := 2) (v := ?v3) rfl (by kernel_rfl) (by kernel_rfl) (by kernel_rfl) (fun _ _ _ h => h) (by rfl) (by assumption) ?hy3 ?rest3
  case hy3 => (intro w hSw; (try dsimp only at hSw); first | (go_simp; done) | (go_simp; with_reducible rfl))
  try simp only [Act.put, List.setIfInBounds_toArray, List.set_cons_zero, List.set_cons_succ]
  refine takeH (i := 3) (v := ?v4) rfl (by kernel_rfl) (by kernel_rfl) (by kernel_rfl) (fun _ _ _ h => h) (by rfl) (by assumption) ?hy4 ?rest4
  case hy4 => (intro w hSw; (try dsimp only at hSw); first | (go_simp; done) | (go_simp; with_reducible rfl))
  try simp only [Act.put, List.setIfInBounds_toArray, List.set_cons_zero, List.set_cons_succ]
  refine takeH (i := 5) (v := ?v5) rfl (by kernel_rfl) (by kernel_rfl) (by kernel_rfl) (fun _ _ _ h => h) (by rfl) (by assumption) ?hy5 ?rest5
  case hy5 => (intro w hSw; (try dsimp only at hSw); first | (go_simp; done) | (go_simp; with_reducible rfl))
  try simp only [Act.put, List.setIfInBounds_toArray, List.set_cons_zero, List.set_cons_succ]
  refine takeH (i := 6) (v := ?v6) rfl (by kernel_rfl) (by kernel_rfl) (by kernel_rfl) (fun _ _ _ h => h) (by rfl) (by assumption) ?hy6 ?rest6
  case hy6 => (intro w hSw; (try dsimp only at hSw); first | (go_simp; done) | (go_simp; with_reducible rfl))
  try simp only [Act.put, List.setIfInBounds_toArray, List.set_cons_zero, List.set_cons_succ]
  refine wpAnyH_ready (rs := [4]) (by kernel_rfl) (by simp) (consH rfl (fun K hK => ?_) AllReadyH.nil)
  rw [if_pos (by kernel_rfl)]
  refine wp_make rfl rfl rfl hmk ?_
  refine hK.out _ _ k1 (fun hHeld => ?_)
  clear hK K
  try simp only [Act.put, List.setIfInBounds_toArray, List.set_cons_zero, List.set_cons_succ]
  refine wpAnyH_ready (rs := [7]) (by kernel_rfl) (by simp) (consH rfl (fun K hK => ?_) AllReadyH.nil)
  rw [if_pos (by kernel_rfl)]
  refine wp_append rfl rfl rfl hap ?_
  refine hK.out _ _ k2 (fun hHeld => ?_)
  clear hK K
  try simp only [Act.put, List.setIfInBounds_toArray, List.set_cons_zero, List.set_cons_succ]
  refine takeH (i := 8) (v := ?v7) rfl (by kernel_rfl) (by kernel_rfl) (by kernel_rfl) (fun _ _ _ h => h) (by rfl) (by assumption) ?hy7 ?rest7
  case hy7 => (intro w hSw; (try dsimp only at hSw); first | (go_simp; done) | (go_simp; with_reducible rfl))
  try simp only [Act.put, List.setIfInBounds_toArray, List.set_cons_zero, List.set_cons_succ]
  refine wpAnyH_ready (rs := [9]) (by kernel_rfl) (by simp) (consH rfl (fun K hK => ?_) AllReadyH.nil)
  go_simp
  refine hK.out _ _ k3 (fun hHeld => ?_)
  clear hK K
  try simp only [Act.put, List.setIfInBounds_toArray, List.set_cons_zero, List.set_cons_succ]
  refine wpAnyH_done (by kernel_rfl) ?_ _
  clear k1 k2 k3 d1 d2 q0 q1 hmk hap hHeld hwr
  have hsz2 : rb + 3 ≤ W2.heap.size := HI0.out.size
  generalize w4.setCell ⟨rb + 2, 2, none⟩ (.slice pS sl cS) = W3 at *
  clear HI0 HSS2 HB4
  clear hsz2
  have HTS3 := Lib.hid (HTS.out.below (show Below w.heap.size w W3 by rw [HRBE.out]; exact HI1.out.low))
  clear HTS
  have hwr : IntKind.i64.wrap ((tl : Int) + 2) = (tl : Int) + 2 := by rw [IntKind.wrap_i64]; omega
  have q0 : W3.drew.cell? ⟨rb, 0, none⟩ = some (.slice pt tl ct) := (cell_of HI1.out.src 0).trans rfl
  have q1 : rb < W3.drew.heap.size := by have := HI1.out.size; show rb < W3.heap.size; omega
  obtain ⟨ob, pT, cT, w4, hmk, hap, hrow, hb4⟩ := copy_row (P := Tryd.prog) W3.drew 23 23 62 Tryd.underlying23 info62 (by omega) (by omega) rfl HTS3.out.drew hzt
  have hb5 : Below W3.heap.size W3 w4 := ((Below.refl W3.heap.size W3).drew).trans hb4
  have hc1 := HI1.out.tops (L := S.tops) hb5 (by rw [HTL.out]; exact hrow)
  simp only at hc1
  have k1 : (W3.drew.alloc ob).cell? ⟨rb, 0, none⟩ = some (.slice pt tl ct) := (World.cell?_alloc_some _ _ _ (by rw [q0]; rfl)).trans q0
  have k2 : w4.cell? ⟨rb, 0, none⟩ = some (.slice pt tl ct) := (hb4.cell q1).trans q0
  have k3 : (w4.setCell ⟨rb + 2, 0, none⟩ (.slice pT tl cT)).cell? ⟨rb, 0, none⟩ = some (.slice pt tl ct) := (cell_of hc1.src 0).trans rfl
  have c4 := HI1.out.below hb5
  have d1 : w4.cell? ⟨rb + 2, 0, none⟩ = some (.slice none 0 0) := (cell_of c4.out 0).trans rfl
  have d2 := free_of c4.out 0
  clear hrow c4 hb4 hb5
  have HI2 := Lib.hid hc1
  clear hc1
  go_upto_region 3 with fail
  refine wp_region_held_drew (S := fun w' => w'.cell? ⟨rb, 0, none⟩ = some (.slice pt tl ct)) (by kernel_rfl) q0 (fun hHeld => ?_)
  refine takeH (i := 0) (v := ?v8) rfl (by kernel_rfl) (by kernel_rfl) (by kernel_rfl) (fun _ _ _ h => h) (by rfl) (by assumption) ?hy8 ?rest8
  case hy8 => (intro w hSw; (try dsimp only at hSw); first | (go_simp; done) | (go_simp; with_reducible rfl))
  try simp only [Act.put, List.setIfInBounds_toArray, List.set_cons_zero, List.set_cons_succ]
  refine takeH (i := 1) (v := ?v9) rfl (by kernel_rfl) (by kernel_rfl) (by kernel_rfl) (fun _ _ _ h => h) (by rfl) (by assumption) ?hy9 ?rest9
  case hy9 => (intro w hSw; (try dsimp only at hSw); first | (go_simp; done) | (go_simp; with_reducible rfl))
  try simp only [Act.put, List.setIfInBounds_toArray, List.set_cons_zero, List.set_cons_succ]
  refine takeH (i := 2) (v := ?v10) rfl (by kernel_rfl) (by kernel_rfl) (by kernel_rfl) (fun _ _ _ h => h) (by rfl) (by assumption) ?hy10 ?rest10
  case hy10 => (intro w hSw; (try dsimp only at hSw); first | (go_simp; done) | (go_simp; with_reducible rfl))
  try simp only [Act.put, List.setIfInBounds_toArray, List.set_cons_zero, List.set_cons_succ]
  refine takeH (i := 3) (v := ?v11) rfl (by kernel_rfl) (by kernel_rfl) (by kernel_rfl) (fun _ _ _ h => h) (by rfl) (by assumption) ?hy11 ?rest11
  case hy11 => (intro w hSw; (try dsimp only at hSw); first | (go_simp; done) | (go_simp; with_reducible rfl))
  try simp only [Act.put, List.setIfInBounds_toArray, List.set_cons_zero, List.set_cons_succ]
  refine takeH (i := 5) (v := ?v12) rfl (by kernel_rfl) (by kernel_rfl) (by kernel_rfl) (fun _ _ _ h => h) (by rfl) (by assumption) ?hy12 ?rest12
  case hy12 => (intro w hSw; (try dsimp only at hSw); first | (go_simp; done) | (go_simp; with_reducible rfl))
  try simp only [Act.put, List.setIfInBounds_toArray, List.set_cons_zero, List.set_cons_succ]
  refine takeH (i := 6) (v := ?v13) rfl (by kernel_rfl) (by kernel_rfl) (by kernel_rfl) (fun _ _ _ h => h) (by rfl) (by assumption) ?hy13 ?rest13
  case hy13 => (intro w hSw; (try dsimp only at hSw); first | (go_simp; done) | (go_simp; with_reducible rfl))
  try simp only [Act.put, List.setIfInBounds_toArray, List.set_cons_zero, List.set_cons_succ]
  refine wpAnyH_ready (rs := [4]) (by kernel_rfl) (by simp) (consH rfl (fun K hK => ?_) AllReadyH.nil)
  rw [if_pos (by kernel_rfl)]
  refine wp_make rfl rfl rfl hmk ?_
  refine hK.out _ _ k1 (fun hHeld => ?_)
  clear hK K
  try simp only [Act.put, List.setIfInBounds_toArray, List.set_cons_zero, List.set_cons_succ]
  refine wpAnyH_ready (rs := [7]) (by kernel_rfl) (by simp) (consH rfl (fun K hK => ?_) AllReadyH.nil)
  rw [if_pos (by kernel_rfl)]
  refine wp_append rfl rfl rfl hap ?_
  refine hK.out _ _ k2 (fun hHeld => ?_)
  clear hK K
  try simp only [Act.put, List.setIfInBounds_toArray, List.set_cons_zero, List.set_cons_succ]
  refine takeH (i := 8) (v := ?v14) rfl (by kernel_rfl) (by kernel_rfl) (by kernel_rfl) (fun _ _ _ h => h) (by rfl) (by assumption) ?hy14 ?rest14
  case hy14 => (intro w hSw; (try dsimp only at hSw); first | (go_simp; done) | (go_simp; with_reducible rfl))
  try simp only [Act.put, List.setIfInBounds_toArray, List.set_cons_zero, List.set_cons_succ]
  refine wpAnyH_ready (rs := [9]) (by kernel_rfl) (by simp) (consH rfl (fun K hK => ?_) AllReadyH.nil)
  go_simp
  refine hK.out _ _ k3 (fun hHeld => ?_)
  clear hK K
  try simp only [Act.put, List.setIfInBounds_toArray, List.set_cons_zero, List.set_cons_succ]
  refine wpAnyH_done (by kernel_rfl) ?_ _
  clear k1 k2 k3 d1 d2 q0 q1 hmk hap hHeld hwr
  generalize w4.setCell ⟨rb + 2, 0, none⟩ (.slice pT tl cT) = W4 at *
  clear HI1 HTS3
  have hwr : IntKind.i64.wrap ((hl : Int) + 2) = (hl : Int) + 2 := by rw [IntKind.wrap_i64]; omega
  obtain ⟨i58, hi58, y0, y1, y2⟩ := info_parts info58
  have hmk : ∃ o, (Instr.makeSlice 24 (.int .i64 0) (.int .i64 ((hl : Int) + 2))).run Tryd.prog W4 = .ok (.slice (some ⟨W4.heap.size, 0, none⟩) 0 (hl + 2)) (W4.alloc o) ∧ (W4.alloc o).ownsRow W4.heap.size 58 2 (.slice (some ⟨W4.heap.size, 0, none⟩) 0 (hl + 2)) 0 [] := by
    have hbi : (i58.bytes : Int) * ((hl : Int) + 2) ≤ 281474976710656 := by rw [y2]; omega
    have hr := run_make (P := Tryd.prog) W4 24 58 i58 _ Tryd.underlying24 hi58 y0 .i64 .i64 0 ((hl : Int) + 2) (Int.le_refl _) (by omega) hbi (by omega)
    have hc : ((hl : Int) + 2).toNat = hl + 2 := by omega
    simp only [Int.toNat_zero, hc] at hr
    exact ⟨_, hr, World.ownsRow_made W4 _ (hl + 2) (Nat.le_refl _) (by unfold maxLen; omega) (by rw [size_madeCells, y1])⟩
  obtain ⟨om, hmk, hrow⟩ := hmk
  have hc1 := HI2.out.fresh ((Below.refl _ _).alloc (Nat.le_refl _) om) hrow
  simp only at hc1
  have HI3 := Lib.hid hc1
  have c4 := HI2.out.below ((Below.refl _ _).alloc (Nat.le_refl _) om)
  have a1 : W4.cell? ⟨rb, 1, none⟩ = some (.slice ph hl ch) := (cell_of HI2.out.src 1).trans rfl
  have d1 : (W4.alloc om).cell? ⟨rb + 2, 1, none⟩ = some (.slice none 0 0) := (cell_of c4.out 1).trans rfl
  have d2 := free_of c4.out 1
  have b1 : ((W4.alloc om).setCell ⟨rb + 2, 1, none⟩ (.slice (some ⟨W4.heap.size, 0, none⟩) 0 (hl + 2))).cell? ⟨rb, 1, none⟩ = some (.slice ph hl ch) := (cell_of hc1.src 1).trans rfl
  clear hc1 c4 hrow
  go_wp2_with fail
  go_loopw [36] (fun iv wr => ∃ (j : Nat) (v : Value) (U : Nat → Value), j ≤ hl ∧ iv = .int .i64 j ∧ CopyI w wr rb #[.slice pt tl ct, .slice ph hl ch, .slice ps sl cs, .int .i64 S.most] S.most (.slice pT tl cT) v (.slice pS sl cS) U ⟨S.tops, S.thrs.take j, S.sch, S.most⟩) (fun iv _ => hl - (intOf iv).toNat)
  case atStart => exact ⟨0, _, _, Nat.zero_le _, rfl, HI3.out⟩
  case round =>
    clear HI2 HI3 hmk a1 d1 d2 b1 hwr
    obtain ⟨j, v, U, hj, rfl, hc⟩ := hrel
    have HC := Lib.hid hc
    have hAr := HA.out.below (show Below w.heap.size w wr by rw [HRBE.out]; exact hc.low)
    have HTJ : Hid ((S.thrs.take j).length = j) := Lib.hid (by have := HHL.out; simp; omega)
    obtain ⟨pv, cv, hve⟩ : ∃ p c, v = .slice p j c := by
      obtain ⟨p, c, e⟩ := own_slice hc.rows.thrs
      simp only at e
      rw [HTJ.out] at e
      exact ⟨p, c, e⟩
    subst hve
    have hszw : rb + 3 ≤ wr.heap.size := hc.size
    clear hc
    by_cases hjn : j < hl
    · have hjL : j < S.thrs.length := by rw [HHL.out]; exact hjn
      obtain ⟨q1, c1, e1, _, hA1⟩ := hAr.thrs
      injection e1 with e11 e12 e13
      subst e11
      obtain ⟨ga, oa, rfl, hA2⟩ := hA1.resolve_left (by intro e; have := congrArg List.length e; rw [hcells_length] at this; simp at this; omega)
      obtain ⟨cn, cv2⟩ := hcell_name hA2 hjL
      obtain ⟨pw, cw, ew, _, _⟩ := hAr.each j hjL
      have HVJ := Lib.hid (show SrcOf wr 4 (V j) (S.thrs.getD j default).ops.length (ocells (S.thrs.getD j default).ops) from (hAr.each j hjL).src (ocells_length _) (ocells_one _) (fun c e => HVN.out j (by rw [HHL.out.symm] at hjn; first | exact hjn | omega) _ c e))
      have HTO := HZO.out _ (getD_mem hjL)
      clear hAr hA1 hA2 e12 e13
      rw [ew] at cv2 HVJ
      clear ew
      have HTK : Hid (S.thrs.take (j + 1) = S.thrs.take j ++ [S.thrs.getD j default]) := Lib.hid (take_snoc hjL default)
      generalize S.thrs.getD j default = t at *
      obtain ⟨tb, htb⟩ : ∃ tb, tb = wr.heap.size := ⟨_, rfl⟩
      obtain ⟨wt, hwt⟩ : ∃ wt, wt = wr.alloc (.cells #[.string ⟨t.name.toArray⟩, .slice pw t.ops.length cw] 58) := ⟨_, rfl⟩
      have hbt : Below wr.heap.size wr wt := by rw [hwt]; exact (Below.refl _ _).alloc (Nat.le_refl _) _
      have htn : wt.heap[tb]? = some (.cells #[.string ⟨t.name.toArray⟩, .slice pw t.ops.length cw] 58 (0, 0)) := by rw [hwt, htb]; exact heap_alloc_new _ _
      have HVT := Lib.hid (HVJ.out.below hbt)
      have hwr : IntKind.i64.wrap ((t.ops.length : Int) + 2) = (t.ops.length : Int) + 2 := by rw [IntKind.wrap_i64]; omega
      have q0 : wt.drew.cell? ⟨tb, 1, none⟩ = some (.slice pw t.ops.length cw) := (cell_of htn 1).trans rfl
      have q1 : tb < wt.drew.heap.size := (Array.getElem?_eq_some_iff.1 htn).1
      obtain ⟨ob, po, co, w4, hmk, hap, hrow, hb4⟩ := copy_row (P := Tryd.prog) wt.drew 56 56 65 under56 info65 (by omega) (by omega) rfl HVT.out.drew HTO
      have k1 : (wt.drew.alloc ob).cell? ⟨tb, 1, none⟩ = some (.slice pw t.ops.length cw) := (World.cell?_alloc_some _ _ _ (by rw [q0]; rfl)).trans q0
      have k1b : (wt.alloc ob).cell? ⟨tb, 1, none⟩ = some (.slice pw t.ops.length cw) := k1
      have htn4 : w4.heap[tb]? = some (.cells #[.string ⟨t.name.toArray⟩, .slice pw t.ops.length cw] 58 (0, 0)) := (hb4.block tb q1).trans htn
      have k2 : w4.cell? ⟨tb, 1, none⟩ = some (.slice pw t.ops.length cw) := (cell_of htn4 1).trans rfl
      have d2 := free_of htn4 1
      have hb5 : Below wr.heap.size wr w4 := hbt.trans ((((Below.refl wt.heap.size wt).drew).trans hb4).mono hbt.size)
      have hb6 : Below wr.heap.size wr (w4.setCell ⟨tb, 1, none⟩ (.slice po t.ops.length co)) := hb5.setCell (by rw [htb]; exact Nat.le_refl _) _
      have HC5 := Lib.hid (HC.out.below hb6)
      have hsz4 : wr.heap.size ≤ wt.drew.heap.size := hbt.size
      have hrow5 := own_head (own_base (N := rb) hrow (by omega)) htn4 (grown_set _ _ 1 (.slice po t.ops.length co)) (by decide)
      have HT5 : Hid ((w4.setCell ⟨tb, 1, none⟩ (.slice po t.ops.length co)).heap[tb]? = some (.cells #[.string ⟨t.name.toArray⟩, .slice po t.ops.length co] 58 (0, 0))) := Lib.hid ((set_at htn4 1 (.slice po t.ops.length co)).trans rfl)
      have hne : ∀ i, i < (S.thrs.take j).length → (U i).ownBlock = none ∨ (U i).ownBlock ≠ Value.ownBlock (.slice po t.ops.length co) := fun i hi => HC.out.apart hsz4 hrow i hi
      obtain ⟨w5, hw5⟩ : ∃ w5, w5 = w4.setCell ⟨tb, 1, none⟩ (.slice po t.ops.length co) := ⟨_, rfl⟩
      rw [← hw5] at HC5 HT5 hrow5
      have HSX := Lib.hid (src_one0 w5 #[.string ⟨t.name.toArray⟩, .slice po t.ops.length co] 58 2 rfl (hcell_one t _ rfl))
      have HRA : Hid ((w5.alloc (.cells #[.string ⟨t.name.toArray⟩, .slice po t.ops.length co] 58)).ownsRow rb 58 2 (.slice pv j cv) j (hcells (S.thrs.take j) U)) := Lib.hid (by
        have h := HC5.out.rows.thrs.alloc (.cells #[.string ⟨t.name.toArray⟩, .slice po t.ops.length co] 58)
        simp only at h
        rw [HTJ.out] at h
        exact h)
      have HMORE : Hid (∀ v' w6, Appended (w5.alloc (.cells #[.string ⟨t.name.toArray⟩, .slice po t.ops.length co] 58)) rb 58 2 (.slice pv j cv) j 1 (hcells (S.thrs.take j) U ++ hcell t (.slice po t.ops.length co)) v' w6 → _) := Lib.hid (fun v' w6 ha => HC5.out.thread (t := t) (v1 := .slice po t.ops.length co) hrow5 hne (v' := v') (w1 := w6) (o := .cells #[.string ⟨t.name.toArray⟩, .slice po t.ops.length co] 58) (by simp only; rw [HTJ.out]; exact ha))
      have o1 : w5.cell? ⟨rb + 2, 1, none⟩ = some (.slice pv j cv) := (cell_of HC5.out.out 1).trans rfl
      have t0 : w5.cell? ⟨tb, 0, none⟩ = some (.string ⟨t.name.toArray⟩) := (cell_of HT5.out 0).trans rfl
      have t1 : w5.cell? ⟨tb, 1, none⟩ = some (.slice po t.ops.length co) := (cell_of HT5.out 1).trans rfl
      have hs5 : rb + 3 ≤ w5.heap.size := HC5.out.size
      clear hrow hb4 hb5 hb6 htn htn4 hrow5 hne hsz4 q1 hbt hszw
      go_upto_region 8 with fail
      rw [← hwt, ← htb]
      clear hwt htb cn cv2
      have HW5 := Lib.hid hw5
      clear hw5 o1 t0 t1 hs5
      refine wp_region_held_drew (S := fun _ => True) (by kernel_rfl) trivial (fun hHeld => ?_)
      refine takeH (i := 0) (v := ?v15) rfl (by kernel_rfl) (by kernel_rfl) (by kernel_rfl) (fun _ _ _ h => h) (by rfl) (by assumption) ?hy15 ?rest15
      case hy15 => (intro w hSw; (try dsimp only at hSw); first | (go_simp; done) | (go_simp; with_reducible rfl))
      try simp only [Act.put, List.setIfInBounds_toArray, List.set_cons_zero, List.set_cons_succ]
      refine takeH (i := 5) (v := ?v16) rfl (by kernel_rfl) (by kernel_rfl) (by kernel_rfl) (fun _ _ _ h => h) (by rfl) (by assumption) ?hy16 ?rest16
      case hy16 => (intro w hSw; (try dsimp only at hSw); first | (go_simp; done) | (go_simp; with_reducible rfl))
      try simp only [Act.put, List.setIfInBounds_toArray, List.set_cons_zero, List.set_cons_succ]
      refine wpAnyH_ready (rs := [1, 6]) (by kernel_rfl) (by simp) (consH rfl (fun K hK => ?_) (consH rfl (fun K hK => ?_) AllReadyH.nil))
      · rw [if_pos (by kernel_rfl)]
        go_simp
        refine hK.out _ _ trivial (fun hHeld => ?_)
        clear hK K
        try simp only [Act.put, List.setIfInBounds_toArray, List.set_cons_zero, List.set_cons_succ]
        refine takeH (i := 2) (v := ?v17) rfl (by kernel_rfl) (by kernel_rfl) (by kernel_rfl) (fun _ _ _ h => h) (by rfl) (by assumption) ?hy17 ?rest17
        case hy17 => (intro w hSw; (try dsimp only at hSw); first | (go_simp; done) | (go_simp; with_reducible rfl))
        try simp only [Act.put, List.setIfInBounds_toArray, List.set_cons_zero, List.set_cons_succ]
        refine takeH (i := 3) (v := ?v18) rfl (by kernel_rfl) (by kernel_rfl) (by kernel_rfl) (fun _ _ _ h => h) (by rfl) (by assumption) ?hy18 ?rest18
        case hy18 => (intro w hSw; (try dsimp only at hSw); first | (go_simp; done) | (go_simp; with_reducible rfl))
        try simp only [Act.put, List.setIfInBounds_toArray, List.set_cons_zero, List.set_cons_succ]
        refine wpAnyH_ready (rs := [4, 6]) (by kernel_rfl) (by simp) (consH rfl (fun K hK => ?_) (consH rfl (fun K hK => ?_) AllReadyH.nil))
        · rw [if_pos (by kernel_rfl)]
          refine wp_make rfl rfl rfl hmk ?_
          refine hK.out _ _ trivial (fun hHeld => ?_)
          clear hK K
          try simp only [Act.put, List.setIfInBounds_toArray, List.set_cons_zero, List.set_cons_succ]
          refine wpAnyH_ready (rs := [6]) (by kernel_rfl) (by simp) (consH rfl (fun K hK => ?_) AllReadyH.nil)
          rw [if_pos (by kernel_rfl)]
          go_simp
          refine hK.out _ _ trivial (fun hHeld => ?_)
          clear hK K
          try simp only [Act.put, List.setIfInBounds_toArray, List.set_cons_zero, List.set_cons_succ]
          refine wpAnyH_ready (rs := [7]) (by kernel_rfl) (by simp) (consH rfl (fun K hK => ?_) AllReadyH.nil)
          rw [if_pos (by kernel_rfl)]
          refine wp_append rfl rfl rfl hap ?_
          refine hK.out _ _ trivial (fun hHeld => ?_)
          clear hK K
          try simp only [Act.put, List.setIfInBounds_toArray, List.set_cons_zero, List.set_cons_succ]
          refine takeH (i := 8) (v := ?v19) rfl (by kernel_rfl) (by kernel_rfl) (by kernel_rfl) (fun _ _ _ h => h) (by rfl) (by assumption) ?hy19 ?rest19
          case hy19 => (intro w hSw; (try dsimp only at hSw); first | (go_simp; done) | (go_simp; with_reducible rfl))
          try simp only [Act.put, List.setIfInBounds_toArray, List.set_cons_zero, List.set_cons_succ]
          refine wpAnyH_ready (rs := [9]) (by kernel_rfl) (by simp) (consH rfl (fun K hK => ?_) AllReadyH.nil)
          go_simp
          refine hK.out _ _ trivial (fun hHeld => ?_)
          clear hK K
          try simp only [Act.put, List.setIfInBounds_toArray, List.set_cons_zero, List.set_cons_succ]
          refine wpAnyH_done (by kernel_rfl) ?_ _
          rw [← HW5.out]
          clear hHeld hmk hap k1 k1b k2 d2 q0 hwr
          have o1 : w5.cell? ⟨rb + 2, 1, none⟩ = some (.slice pv j cv) := (cell_of HC5.out.out 1).trans rfl
          have t0 : w5.cell? ⟨tb, 0, none⟩ = some (.string ⟨t.name.toArray⟩) := (cell_of HT5.out 0).trans rfl
          have t1 : w5.cell? ⟨tb, 1, none⟩ = some (.slice po t.ops.length co) := (cell_of HT5.out 1).trans rfl
          have hs5 : rb + 3 ≤ w5.heap.size := HC5.out.size
          go_wp2_with (at_builtin; go_must (refine wpList_append_row rfl (.tmp 50) (.tmp 52) 24 rfl rb 58 i58 _ 2 40 Tryd.underlying24 hi58 y0 y1 (by decide) y2 rfl (.slice pv j cv) j (hcells (S.thrs.take j) U) rfl HRA.out 1 (hcell t (.slice po t.ops.length co)) HSX.out ?l2 ?b2 ?n2 ?_); go_must (case l2 => (unfold maxLen; omega)); go_must (case b2 => omega); go_must (case n2 => (simp; omega)); intro v' w6 ha; go_must (obtain ⟨vp, vc, rfl⟩ := own_slice ha.1); go_must (obtain ⟨e1, e2, e3⟩ := HMORE.out _ w6 ha); have HK3 := Lib.hid e3; clear e3 ha)
          go_roundw
          case rel => exact ⟨j + 1, .slice vp (j + 1) vc, _, by omega, by go_num, by rw [HTK.out]; exact HK3.out⟩
          case measure => simp [intOf]; omega
        · rw [if_pos (by kernel_rfl)]
          go_simp
          refine hK.out _ _ trivial (fun hHeld => ?_)
          clear hK K
          try simp only [Act.put, List.setIfInBounds_toArray, List.set_cons_zero, List.set_cons_succ]
          refine wpAnyH_ready (rs := [4]) (by kernel_rfl) (by simp) (consH rfl (fun K hK => ?_) AllReadyH.nil)
          rw [if_pos (by kernel_rfl)]
          refine wp_make rfl rfl rfl hmk ?_
          refine hK.out _ _ trivial (fun hHeld => ?_)
          clear hK K
          try simp only [Act.put, List.setIfInBounds_toArray, List.set_cons_zero, List.set_cons_succ]
          refine wpAnyH_ready (rs := [7]) (by kernel_rfl) (by simp) (consH rfl (fun K hK => ?_) AllReadyH.nil)
          rw [if_pos (by kernel_rfl)]
          refine wp_append rfl rfl rfl hap ?_
          refine hK.out _ _ trivial (fun hHeld => ?_)
          clear hK K
          try simp only [Act.put, List.setIfInBounds_toArray, List.set_cons_zero, List.set_cons_succ]
          refine takeH (i := 8) (v := ?v20) rfl (by kernel_rfl) (by kernel_rfl) (by kernel_rfl) (fun _ _ _ h => h) (by rfl) (by assumption) ?hy20 ?rest20
          case hy20 => (intro w hSw; (try dsimp only at hSw); first | (go_simp; done) | (go_simp; with_reducible rfl))
          try simp only [Act.put, List.setIfInBounds_toArray, List.set_cons_zero, List.set_cons_succ]
          refine wpAnyH_ready (rs := [9]) (by kernel_rfl) (by simp) (consH rfl (fun K hK => ?_) AllReadyH.nil)
          go_simp
          refine hK.out _ _ trivial (fun hHeld => ?_)
          clear hK K
          try simp only [Act.put, List.setIfInBounds_toArray, List.set_cons_zero, List.set_cons_succ]
          refine wpAnyH_done (by kernel_rfl) ?_ _
          rw [← HW5.out]
          clear hHeld hmk hap k1 k1b k2 d2 q0 hwr
          have o1 : w5.cell? ⟨rb + 2, 1, none⟩ = some (.slice pv j cv) := (cell_of HC5.out.out 1).trans rfl
          have t0 : w5.cell? ⟨tb, 0, none⟩ = some (.string ⟨t.name.toArray⟩) := (cell_of HT5.out 0).trans rfl
          have t1 : w5.cell? ⟨tb, 1, none⟩ = some (.slice po t.ops.length co) := (cell_of HT5.out 1).trans rfl
          have hs5 : rb + 3 ≤ w5.heap.size := HC5.out.size
          go_wp2_with (at_builtin; go_must (refine wpList_append_row rfl (.tmp 50) (.tmp 52) 24 rfl rb 58 i58 _ 2 40 Tryd.underlying24 hi58 y0 y1 (by decide) y2 rfl (.slice pv j cv) j (hcells (S.thrs.take j) U) rfl HRA.out 1 (hcell t (.slice po t.ops.length co)) HSX.out ?l2 ?b2 ?n2 ?_); go_must (case l2 => (unfold maxLen; omega)); go_must (case b2 => omega); go_must (case n2 => (simp; omega)); intro v' w6 ha; go_must (obtain ⟨vp, vc, rfl⟩ := own_slice ha.1); go_must (obtain ⟨e1, e2, e3⟩ := HMORE.out _ w6 ha); have HK3 := Lib.hid e3; clear e3 ha)
          go_roundw
          case rel => exact ⟨j + 1, .slice vp (j + 1) vc, _, by omega, by go_num, by rw [HTK.out]; exact HK3.out⟩
          case measure => simp [intOf]; omega
      · rw [if_pos (by kernel_rfl)]
        go_simp
        refine hK.out _ _ trivial (fun hHeld => ?_)
        clear hK K
        try simp only [Act.put, List.setIfInBounds_toArray, List.set_cons_zero, List.set_cons_succ]
        refine wpAnyH_ready (rs := [1]) (by kernel_rfl) (by simp) (consH rfl (fun K hK => ?_) AllReadyH.nil)
        rw [if_pos (by kernel_rfl)]
        go_simp
        refine hK.out _ _ trivial (fun hHeld => ?_)
        clear hK K
        try simp only [Act.put, List.setIfInBounds_toArray, List.set_cons_zero, List.set_cons_succ]
        refine takeH (i := 2) (v := ?v21) rfl (by kernel_rfl) (by kernel_rfl) (by kernel_rfl) (fun _ _ _ h => h) (by rfl) (by assumption) ?hy21 ?rest21
        case hy21 => (intro w hSw; (try dsimp only at hSw); first | (go_simp; done) | (go_simp; with_reducible rfl))
        try simp only [Act.put, List.setIfInBounds_toArray, List.set_cons_zero, List.set_cons_succ]
        refine takeH (i := 3) (v := ?v22) rfl (by kernel_rfl) (by kernel_rfl) (by kernel_rfl) (fun _ _ _ h => h) (by rfl) (by assumption) ?hy22 ?rest22
        case hy22 => (intro w hSw; (try dsimp only at hSw); first | (go_simp; done) | (go_simp; with_reducible rfl))
        try simp only [Act.put, List.setIfInBounds_toArray, List.set_cons_zero, List.set_cons_succ]
        refine wpAnyH_ready (rs := [4]) (by kernel_rfl) (by simp) (consH rfl (fun K hK => ?_) AllReadyH.nil)
        rw [if_pos (by kernel_rfl)]
        refine wp_make rfl rfl rfl hmk ?_
        refine hK.out _ _ trivial (fun hHeld => ?_)
        clear hK K
        try simp only [Act.put, List.setIfInBounds_toArray, List.set_cons_zero, List.set_cons_succ]
        refine wpAnyH_ready (rs := [7]) (by kernel_rfl) (by simp) (consH rfl (fun K hK => ?_) AllReadyH.nil)
        rw [if_pos (by kernel_rfl)]
        refine wp_append rfl rfl rfl hap ?_
        refine hK.out _ _ trivial (fun hHeld => ?_)
        clear hK K
        try simp only [Act.put, List.setIfInBounds_toArray, List.set_cons_zero, List.set_cons_succ]
        refine takeH (i := 8) (v := ?v23) rfl (by kernel_rfl) (by kernel_rfl) (by kernel_rfl) (fun _ _ _ h => h) (by rfl) (by assumption) ?hy23 ?rest23
        case hy23 => (intro w hSw; (try dsimp only at hSw); first | (go_simp; done) | (go_simp; with_reducible rfl))
        try simp only [Act.put, List.setIfInBounds_toArray, List.set_cons_zero, List.set_cons_succ]
        refine wpAnyH_ready (rs := [9]) (by kernel_rfl) (by simp) (consH rfl (fun K hK => ?_) AllReadyH.nil)
        go_simp
        refine hK.out _ _ trivial (fun hHeld => ?_)
        clear hK K
        try simp only [Act.put, List.setIfInBounds_toArray, List.set_cons_zero, List.set_cons_succ]
        refine wpAnyH_done (by kernel_rfl) ?_ _
        rw [← HW5.out]
        clear hHeld hmk hap k1 k1b k2 d2 q0 hwr
        have o1 : w5.cell? ⟨rb + 2, 1, none⟩ = some (.slice pv j cv) := (cell_of HC5.out.out 1).trans rfl
        have t0 : w5.cell? ⟨tb, 0, none⟩ = some (.string ⟨t.name.toArray⟩) := (cell_of HT5.out 0).trans rfl
        have t1 : w5.cell? ⟨tb, 1, none⟩ = some (.slice po t.ops.length co) := (cell_of HT5.out 1).trans rfl
        have hs5 : rb + 3 ≤ w5.heap.size := HC5.out.size
        go_wp2_with (at_builtin; go_must (refine wpList_append_row rfl (.tmp 50) (.tmp 52) 24 rfl rb 58 i58 _ 2 40 Tryd.underlying24 hi58 y0 y1 (by decide) y2 rfl (.slice pv j cv) j (hcells (S.thrs.take j) U) rfl HRA.out 1 (hcell t (.slice po t.ops.length co)) HSX.out ?l2 ?b2 ?n2 ?_); go_must (case l2 => (unfold maxLen; omega)); go_must (case b2 => omega); go_must (case n2 => (simp; omega)); intro v' w6 ha; go_must (obtain ⟨vp, vc, rfl⟩ := own_slice ha.1); go_must (obtain ⟨e1, e2, e3⟩ := HMORE.out _ w6 ha); have HK3 := Lib.hid e3; clear e3 ha)
        go_roundw
        case rel => exact ⟨j + 1, .slice vp (j + 1) vc, _, by omega, by go_num, by rw [HTK.out]; exact HK3.out⟩
        case measure => simp [intOf]; omega
    · obtain rfl : j = hl := by omega
      have HF : Hid (S.thrs.take j = S.thrs) := Lib.hid (List.take_of_length_le (by rw [HHL.out]; exact Nat.le_refl _))
      clear hAr
      have o0 : wr.cell? ⟨rb + 2, 0, none⟩ = some (.slice pT tl cT) := (cell_of HC.out.out 0).trans rfl
      have o1 : wr.cell? ⟨rb + 2, 1, none⟩ = some (.slice pv j cv) := (cell_of HC.out.out 1).trans rfl
      have o2 : wr.cell? ⟨rb + 2, 2, none⟩ = some (.slice pS sl cS) := (cell_of HC.out.out 2).trans rfl
      have o3 : wr.cell? ⟨rb + 2, 3, none⟩ = some (.int .i64 S.most) := (cell_of HC.out.out 3).trans rfl
      have r0 : wr.cell? ⟨rb + 1, 0, none⟩ = some (.slice none 0 0) := (cell_of HC.out.res 0).trans rfl
      have r1 : wr.cell? ⟨rb + 1, 1, none⟩ = some (.slice none 0 0) := (cell_of HC.out.res 1).trans rfl
      have r2 : wr.cell? ⟨rb + 1, 2, none⟩ = some (.slice none 0 0) := (cell_of HC.out.res 2).trans rfl
      have r3 : wr.cell? ⟨rb + 1, 3, none⟩ = some (.int .i64 0) := (cell_of HC.out.res 3).trans rfl
      have r4 := free_of HC.out.res
      go_wp2_with fail
      have hst := store_scr HC.out.res rfl HC.out.low (Nat.le_succ rb) (.slice pT tl cT) (.slice pv j cv) (.slice pS sl cS) (.int .i64 S.most)
      refine bodyPost_ret (results_cell_one (fn := Tryd.f16) (p := 2) (ty := 27) rfl _ _ _ _ ⟨rb + 1, 0, none⟩ rfl (load_scr hst.1)) rfl ?_
      have h0 := HC.out.rows.head kindsC HC.out.res (grown_set _ _ 0 (.slice pT tl cT))
      have g0 := set_at HC.out.res 0 (.slice pT tl cT)
      have h1 := h0.head kindsC g0 (grown_set _ _ 1 (.slice pv j cv))
      have g1 := set_at g0 1 (.slice pv j cv)
      have h2 := h1.head kindsC g1 (grown_set _ _ 2 (.slice pS sl cS))
      have g2 := set_at g1 2 (.slice pS sl cS)
      have h3 := h2.head kindsC g2 (grown_set _ _ 3 (.int .i64 S.most))
      refine ⟨.slice pT tl cT, .slice pv j cv, .slice pS sl cS, U, rfl, ?_, by rw [HRBE.out]; exact hst.2⟩
      rw [HRBE.out]
      exact h3.cast rfl HF.out.symm rfl
end Go.Proofs.YtdmhlhoimaeacaaDoor
