/-
  The law ScriptBack (f7). (Regions in hand-held orders are printed by wip/gen/backl.py.)
-/
import Derived.Test.YtdmhlhoimaeacaaDoorReadsS
import Derived.Test.YtdmhlhoimaeacaaDoorLenF
namespace Go.Proofs.YtdmhlhoimaeacaaDoor
open Go.RowKit Go.Maps PL
set_option linter.unusedVariables false

set_option maxRecDepth 100000 in
set_option maxHeartbeats 8000000 in
theorem back_law (N : Nat) (tv hv sv : Value) (V : Nat → Value) (S : Scr) (w : World) (hE : Env N w) (h : ScrAt w tv hv sv V S) (z : SmallS S) (hN : Nums S) :
    Calls Tryd.prog 7 #[.agg #[tv, hv, sv, .int .i64 S.most]] w fun e w' => e = .returned (.bool true) ∧ Below w.heap.size w w' := by
  have hb2 : Below w.heap.size w (w.alloc (.cells #[tv, hv, sv, .int .i64 S.most] 27)) := (Below.refl _ _).alloc (Nat.le_refl _) _
  have HA := Lib.hid (h.below hb2)
  have HE := Lib.hid (hE.up hb2)
  have HB2 := Lib.hid hb2
  have HX := Lib.hid (heap_alloc_new w (.cells #[tv, hv, sv, .int .i64 S.most] 27))
  obtain ⟨pt, ct, rfl, hct, _⟩ := h.tops
  obtain ⟨ph, ch, rfl, hch, _⟩ := h.thrs
  obtain ⟨ps, cs, rfl, hcs, _⟩ := h.sch
  have HZ := Lib.hid z
  have HN := Lib.hid hN
  have HSZ : Hid ((w.alloc (.cells #[.slice pt S.tops.length ct, .slice ph S.thrs.length ch, .slice ps S.sch.length cs, .int .i64 S.most] 27)).heap.size = w.heap.size + 1) := Lib.hid (by simp)
  clear h z hb2 hN hE hct hch hcs
  go_enter Tryd.func7, Tryd.ntmps7
  go_upto_region 1 with fail
  generalize w.alloc (.cells #[.slice pt S.tops.length ct, .slice ph S.thrs.length ch, .slice ps S.sch.length cs, .int .i64 S.most] 27) = w0 at *
  generalize hrb : w.heap.size = rb at *
  have HRBE := Lib.hid hrb
  clear hrb
  have HW : Hid (∀ W, Below (rb + 1) w0 W → ScrAt W (.slice pt S.tops.length ct) (.slice ph S.thrs.length ch) (.slice ps S.sch.length cs) V S ∧ Env N W ∧ W.heap[rb]? = some (.cells #[.slice pt S.tops.length ct, .slice ph S.thrs.length ch, .slice ps S.sch.length cs, .int .i64 S.most] 27 (0, 0)) ∧ Below rb w W) := Lib.hid (fun W hW => by
    have h1 : Below w0.heap.size w0 W := by rw [HSZ.out]; exact hW
    exact ⟨HA.out.below h1, HE.out.up h1, (h1.block rb (by have := HSZ.out; omega)).trans HX.out, HB2.out.trans (hW.mono (Nat.le_succ rb))⟩)
  clear HA HE HB2
  have HWN : Hid (∀ W W', Below (rb + 1) w0 W → Below W.heap.size W W' → Below (rb + 1) w0 W') := Lib.hid (fun W W' h1 h2 => h1.trans (h2.mono (by have := h1.size; have := HSZ.out; omega)))
  have HKC : Hid (∀ W, Below (rb + 1) w0 W → W.cell? ⟨rb, 0, none⟩ = some (.slice pt S.tops.length ct) ∧ W.cell? ⟨rb, 1, none⟩ = some (.slice ph S.thrs.length ch) ∧ W.cell? ⟨rb, 2, none⟩ = some (.slice ps S.sch.length cs) ∧ W.cell? ⟨rb, 3, none⟩ = some (.int .i64 S.most)) := Lib.hid (fun W hW => by
    have hx := (HW.out W hW).2.2.1
    exact ⟨(cell_of hx 0).trans rfl, (cell_of hx 1).trans rfl, (cell_of hx 2).trans rfl, (cell_of hx 3).trans rfl⟩)
  have HPR : Hid (∀ W, Below (rb + 1) w0 W → Calls Tryd.prog 17 #[.agg #[.slice pt S.tops.length ct, .slice ph S.thrs.length ch, .slice ps S.sch.length cs, .int .i64 S.most]] W (PrintD S W)) := Lib.hid (fun W hW => print_walk N _ _ _ V S W (HW.out W hW).2.1 (HW.out W hW).1 HZ.out HN.out)
  have HCK : Hid (∀ W, Below (rb + 1) w0 W → Calls Tryd.prog 19 #[.agg #[.slice pt S.tops.length ct, .slice ph S.thrs.length ch, .slice ps S.sch.length cs, .int .i64 S.most]] W (CheckD S W)) := Lib.hid (fun W hW => check_walkS N _ _ _ V S W (HW.out W hW).2.1 (HW.out W hW).1 HZ.out HN.out.ops)
  have HGD := Lib.hid (fun hc : checkF S = 0 => good_of_nums hc HN.out)
  unfold PrintD at HPR
  unfold CheckD at HCK
  generalize hcr : checkF S = cr at *
  have HC0 := Lib.hid hcr
  clear hcr
  have hb0 : Below (rb + 1) w0 w0 := Below.refl _ _
  have HR := Lib.hid (reads_walkS N w0 (HW.out w0 hb0).2.1)
  go_wp2_with fail
  refine HR.out.mono ?_
  rintro e w1 ⟨rfl, hb1⟩
  have HB1 := Lib.hid (HWN.out _ _ hb0 hb1)
  obtain ⟨a0, a1, a2, a3⟩ := HKC.out _ HB1.out
  clear hb1 hb0 HR
  by_cases hc0 : cr = 0
  case neg =>
    have hcb : (cr != 0) = true := by simpa using hc0
    rw [if_neg hc0] at HPR
    clear hc0
    go_wp2_with fail
    refine (HPR.out _ HB1.out).mono ?_
    rintro e w2 ⟨rfl, hb2⟩
    have HB2 := Lib.hid (HWN.out _ _ HB1.out hb2)
    clear a0 a1 a2 a3 hb2
    obtain ⟨a0, a1, a2, a3⟩ := HKC.out _ HB2.out
    go_wp2_with fail
    refine (HCK.out _ HB2.out).mono ?_
    rintro e w3 ⟨rfl, hb3⟩
    have HB3 := Lib.hid (HWN.out _ _ HB2.out hb3)
    clear a0 a1 a2 a3 hb3
    go_wp2_with fail
    go_ret
    exact ⟨rfl, by rw [HRBE.out]; exact (HW.out _ HB3.out).2.2.2⟩
  case pos =>
    subst hc0
    have HG := Lib.hid (HGD.out rfl)
    have HPP := Lib.hid (parse_print HG.out)
    have hpl := printF_len HG.out
    have HPA := Lib.hid (fun W hW => parse_walk N ⟨(printF S).toArray⟩ W hW (by rw [size_mk]; omega))
    simp only [HPP.out] at HPA
    rw [if_pos rfl] at HPR
    generalize htx : printF S = tx at *
    have HTX := Lib.hid htx
    clear htx
    clear HPP HGD
    go_wp2_with fail
    refine (HPR.out _ HB1.out).mono ?_
    rintro e w2 ⟨rfl, hb2⟩
    have HB2 := Lib.hid (HWN.out _ _ HB1.out hb2)
    clear a0 a1 a2 a3 hb2
    obtain ⟨a0, a1, a2, a3⟩ := HKC.out _ HB2.out
    go_wp2_with fail
    refine (HCK.out _ HB2.out).mono ?_
    rintro e w3 ⟨rfl, hb3⟩
    have HB3 := Lib.hid (HWN.out _ _ HB2.out hb3)
    clear a0 a1 a2 a3 hb3
    go_wp2_with fail
    refine (HPA.out _ (HW.out _ HB3.out).2.1).mono ?_
    rintro e w4 ⟨xt, xh, xs, XV, rfl, hrw, _, hb4⟩
    have HRX := Lib.hid hrw.read
    obtain ⟨p1, c1, rfl, _, _⟩ := hrw.read.tops
    obtain ⟨p2, c2, rfl, _, _⟩ := hrw.read.thrs
    obtain ⟨p3, c3, rfl, _, _⟩ := hrw.read.sch
    have HB4 := Lib.hid (HWN.out _ _ HB3.out hb4)
    have HX4 := Lib.hid (heap_alloc_new w4 (.cells #[.slice p1 S.tops.length c1, .slice p2 S.thrs.length c2, .slice p3 S.sch.length c3, .int .i64 S.most] 27))
    have HL4 : Hid (Below w4.heap.size w4 (w4.alloc (.cells #[.slice p1 S.tops.length c1, .slice p2 S.thrs.length c2, .slice p3 S.sch.length c3, .int .i64 S.most] 27))) := Lib.hid ((Below.refl _ _).alloc (Nat.le_refl _) _)
    have HS4 : Hid ((w4.alloc (.cells #[.slice p1 S.tops.length c1, .slice p2 S.thrs.length c2, .slice p3 S.sch.length c3, .int .i64 S.most] 27)).heap.size = w4.heap.size + 1) := Lib.hid (by simp)
    clear hrw hb4 HPA
    go_upto_region 9 with fail
    generalize w4.alloc (.cells #[.slice p1 S.tops.length c1, .slice p2 S.thrs.length c2, .slice p3 S.sch.length c3, .int .i64 S.most] 27) = w5 at *
    have HB5 := Lib.hid (HWN.out _ _ HB4.out HL4.out)
    generalize hxb : w4.heap.size = xb at *
    have HXBE := Lib.hid hxb
    clear hxb
    obtain ⟨a0, a1, a2, a3⟩ := HKC.out _ HB5.out
    have b0 := (cell_of HX4.out 0).trans rfl
    have b1 := (cell_of HX4.out 1).trans rfl
    have b2 := (cell_of HX4.out 2).trans rfl
    have b3 := (cell_of HX4.out 3).trans rfl
    have HRX5 := Lib.hid (HRX.out.below (by rw [HXBE.out]; exact HL4.out))
    have HSM := Lib.hid (sameS_walk _ _ _ _ _ _ XV V S S w5 HRX5.out (HW.out _ HB5.out).1 HZ.out HZ.out)
    rw [decide_eq_true (show S = S from rfl)] at HSM
    go_wp2_with fail
    refine HSM.out.mono ?_
    rintro e w6 ⟨rfl, hb6⟩
    have HB6 := Lib.hid (HWN.out _ _ HB5.out hb6)
    have k1 := (hb6.block xb (by have := HS4.out; omega)).trans HX4.out
    have HRX6 := Lib.hid (HRX5.out.below hb6)
    clear a0 a1 a2 a3 b0 b1 b2 b3 hb6 HSM
    have b0 := (cell_of k1 0).trans rfl
    have b1 := (cell_of k1 1).trans rfl
    have b2 := (cell_of k1 2).trans rfl
    have b3 := (cell_of k1 3).trans rfl
    have HPX := Lib.hid (print_walk N _ _ _ XV S w6 (HW.out _ HB6.out).2.1 HRX6.out HZ.out HN.out)
    unfold PrintD at HPX
    rw [HC0.out, if_pos rfl, HTX.out] at HPX
    go_wp2_with fail
    refine HPX.out.mono ?_
    rintro e w7 ⟨rfl, hb7⟩
    have HB7 := Lib.hid (HWN.out _ _ HB6.out hb7)
    clear k1 hb7 b0 b1 b2 b3 HPX
    go_wp2_with fail
    go_ret
    exact ⟨rfl, by rw [HRBE.out]; exact (HW.out _ HB7.out).2.2.2⟩
end Go.Proofs.YtdmhlhoimaeacaaDoor
