/-
  The reference's Same (f13).
-/
import Derived.Test.YtdmhlhoimaeacaaDoorFields
namespace Go.Proofs.YtdmhlhoimaeacaaDoor
open Go.RowKit
set_option linter.unusedVariables false

set_option maxRecDepth 100000 in
set_option maxHeartbeats 16000000 in
theorem rsame_walk (ta ha sa tb hb sb : Value) (VA VB : Nat → Value) (S R : Scr) (w : World) (hA : ScrAt w ta ha sa VA S) (hB : ScrAt w tb hb sb VB R) (zA : SmallS S) (zB : SmallS R) :
    Calls Tryd.prog 13 #[.agg #[ta, ha, sa, .int .i64 S.most], .agg #[tb, hb, sb, .int .i64 R.most]] w fun e w' => e = .returned (.bool (decide (S = R))) ∧ Below w.heap.size w w' := by
  have hb2 : Below w.heap.size w ((w.alloc (.cells #[ta, ha, sa, .int .i64 S.most] 34)).alloc (.cells #[tb, hb, sb, .int .i64 R.most] 34)) := ((Below.refl _ _).alloc (Nat.le_refl _) _).alloc (by simp) _
  have hs1 : (w.alloc (.cells #[ta, ha, sa, .int .i64 S.most] 34)).heap.size = w.heap.size + 1 := by simp
  have hs2 : ((w.alloc (.cells #[ta, ha, sa, .int .i64 S.most] 34)).alloc (.cells #[tb, hb, sb, .int .i64 R.most] 34)).heap.size = w.heap.size + 2 := by simp
  have HS2 := Lib.hid hs2
  have HA := Lib.hid (hA.below hb2)
  have HB := Lib.hid (hB.below hb2)
  have HB2 := Lib.hid hb2
  have HXA : Hid (((w.alloc (.cells #[ta, ha, sa, .int .i64 S.most] 34)).alloc (.cells #[tb, hb, sb, .int .i64 R.most] 34)).heap[w.heap.size]? = some (.cells #[ta, ha, sa, .int .i64 S.most] 34 (0, 0))) := Lib.hid ((Below.heap_alloc _ _ _ (by omega)).trans (heap_alloc_new w _))
  have HXB : Hid (((w.alloc (.cells #[ta, ha, sa, .int .i64 S.most] 34)).alloc (.cells #[tb, hb, sb, .int .i64 R.most] 34)).heap[w.heap.size + 1]? = some (.cells #[tb, hb, sb, .int .i64 R.most] 34 (0, 0))) := Lib.hid (by rw [← hs1]; exact heap_alloc_new _ _)
  have HZA := Lib.hid zA
  have HZB := Lib.hid zB
  obtain ⟨pta, cta, rfl, _, _⟩ := hA.tops
  obtain ⟨pha, cha, rfl, _, _⟩ := hA.thrs
  obtain ⟨psa, csa, rfl, _, _⟩ := hA.sch
  obtain ⟨ptb, ctb, rfl, _, _⟩ := hB.tops
  obtain ⟨phb, chb, rfl, _, _⟩ := hB.thrs
  obtain ⟨psb, csb, rfl, _, _⟩ := hB.sch
  have hl1 : S.thrs.length ≤ 4000000 := zA.thrs
  have hl2 : R.thrs.length ≤ 4000000 := zB.thrs
  have hl3 : S.tops.length ≤ 4000000 := zA.tops
  have hl4 : R.tops.length ≤ 4000000 := zB.tops
  have hl5 : S.sch.length ≤ 4000000 := zA.sch
  have hl6 : R.sch.length ≤ 4000000 := zB.sch
  clear hA hB zA zB hb2 hs1 hs2
  generalize hq : decide (S = R) = q at *
  have HQ := Lib.hid hq
  clear hq
  go_enter Tryd.func13, Tryd.ntmps13
  go_upto_region 1 with fail
  generalize (w.alloc (.cells #[.slice pta S.tops.length cta, .slice pha S.thrs.length cha, .slice psa S.sch.length csa, .int .i64 S.most] 34)).alloc (.cells #[.slice ptb R.tops.length ctb, .slice phb R.thrs.length chb, .slice psb R.sch.length csb, .int .i64 R.most] 34) = w0 at *
  generalize hrb : w.heap.size = rb at *
  have HRBE := Lib.hid hrb
  clear hrb
  have HW : Hid (∀ W, Below w0.heap.size w0 W → ScrAt W (.slice pta S.tops.length cta) (.slice pha S.thrs.length cha) (.slice psa S.sch.length csa) VA S ∧ ScrAt W (.slice ptb R.tops.length ctb) (.slice phb R.thrs.length chb) (.slice psb R.sch.length csb) VB R ∧
      W.heap[rb]? = some (.cells #[.slice pta S.tops.length cta, .slice pha S.thrs.length cha, .slice psa S.sch.length csa, .int .i64 S.most] 34 (0, 0)) ∧ W.heap[rb + 1]? = some (.cells #[.slice ptb R.tops.length ctb, .slice phb R.thrs.length chb, .slice psb R.sch.length csb, .int .i64 R.most] 34 (0, 0)) ∧ Below rb w W) := Lib.hid (fun W hW =>
    ⟨HA.out.below hW, HB.out.below hW, (hW.block rb (by have := HS2.out; omega)).trans HXA.out, (hW.block (rb + 1) (by have := HS2.out; omega)).trans HXB.out, HB2.out.trans (hW.mono (by have := HS2.out; omega))⟩)
  have a0 := (cell_of HXA.out 0).trans rfl
  have a1 := (cell_of HXA.out 1).trans rfl
  have a2 := (cell_of HXA.out 2).trans rfl
  have a3 := (cell_of HXA.out 3).trans rfl
  have b0 := (cell_of HXB.out 0).trans rfl
  have b1 := (cell_of HXB.out 1).trans rfl
  have b2 := (cell_of HXB.out 2).trans rfl
  have b3 := (cell_of HXB.out 3).trans rfl
  have HL0 := Lib.hid HB2.out
  clear HA HB HXA HXB HB2
  by_cases h1 : S.most = R.most
  case neg =>
    have HN : Hid (¬ S = R) := Lib.hid (scr_ne (.inr (.inr (.inr h1))))
    have h1b : (S.most != R.most) = true := by simpa using h1
    have HF : Hid (q = false) := Lib.hid (by rw [← HQ.out]; exact decide_eq_false HN.out)
    clear h1
    go_wp2_with fail
    go_ret
    exact ⟨by rw [HF.out]; rfl, by rw [HRBE.out]; exact HL0.out⟩
  by_cases h2 : S.tops.length = R.tops.length
  case neg =>
    have HN : Hid (¬ S = R) := Lib.hid (scr_ne (.inl (fun e => h2 (by rw [e]))))
    have h1b : (S.most != R.most) = false := by simpa using h1
    have h2b : ((S.tops.length : Int) != (R.tops.length : Int)) = true := by simpa using fun e => h2 (Int.ofNat.inj e)
    have HF : Hid (q = false) := Lib.hid (by rw [← HQ.out]; exact decide_eq_false HN.out)
    clear h1 h2
    go_wp2_with fail
    go_ret
    exact ⟨by rw [HF.out]; rfl, by rw [HRBE.out]; exact HL0.out⟩
  by_cases h3 : S.thrs.length = R.thrs.length
  case neg =>
    have HN : Hid (¬ S = R) := Lib.hid (scr_ne (.inr (.inl (fun e => h3 (by rw [e])))))
    have h1b : (S.most != R.most) = false := by simpa using h1
    have h2b : ((S.tops.length : Int) != (R.tops.length : Int)) = false := by rw [h2]; simp
    have h3b : ((S.thrs.length : Int) != (R.thrs.length : Int)) = true := by simpa using fun e => h3 (Int.ofNat.inj e)
    have HF : Hid (q = false) := Lib.hid (by rw [← HQ.out]; exact decide_eq_false HN.out)
    clear h1 h2 h3
    go_wp2_with fail
    go_ret
    exact ⟨by rw [HF.out]; rfl, by rw [HRBE.out]; exact HL0.out⟩
  by_cases h4 : S.sch.length = R.sch.length
  case neg =>
    have HN : Hid (¬ S = R) := Lib.hid (scr_ne (.inr (.inr (.inl (fun e => h4 (by rw [e]))))))
    have h1b : (S.most != R.most) = false := by simpa using h1
    have h2b : ((S.tops.length : Int) != (R.tops.length : Int)) = false := by rw [h2]; simp
    have h3b : ((S.thrs.length : Int) != (R.thrs.length : Int)) = false := by rw [h3]; simp
    have h4b : ((S.sch.length : Int) != (R.sch.length : Int)) = true := by simpa using fun e => h4 (Int.ofNat.inj e)
    have HF : Hid (q = false) := Lib.hid (by rw [← HQ.out]; exact decide_eq_false HN.out)
    clear h1 h2 h3 h4
    go_wp2_with fail
    go_ret
    exact ⟨by rw [HF.out]; rfl, by rw [HRBE.out]; exact HL0.out⟩
  have H1 := Lib.hid h1
  have h1b : (S.most != R.most) = false := by simpa using h1
  have h2b : ((S.tops.length : Int) != (R.tops.length : Int)) = false := by rw [h2]; simp
  have h3b : ((S.thrs.length : Int) != (R.thrs.length : Int)) = false := by rw [h3]; simp
  have h4b : ((S.sch.length : Int) != (R.sch.length : Int)) = false := by rw [h4]; simp
  have H2 := Lib.hid h2
  have H3 := Lib.hid h3
  have H4 := Lib.hid h4
  clear h1 h2 h3 h4
  go_wp2_with fail
  clear a0 a1 a2 a3 b0 b1 b2 b3 h1b h2b h3b h4b
  generalize htl : S.tops.length = tl at *
  generalize htr : R.tops.length = tr at *
  generalize hhl : S.thrs.length = hl at *
  generalize hhr : R.thrs.length = hr at *
  generalize hsl : S.sch.length = sl at *
  generalize hsr : R.sch.length = sr at *
  have HTL := Lib.hid htl
  have HTR := Lib.hid htr
  have HHL := Lib.hid hhl
  have HHR := Lib.hid hhr
  have HSL := Lib.hid hsl
  have HSR := Lib.hid hsr
  clear htl htr hhl hhr hsl hsr
  go_loopw [5] (fun iv wr => ∃ i : Nat, i ≤ tl ∧ iv = .int .i64 i ∧ Agree S.tops R.tops i ∧ Below w0.heap.size w0 wr) (fun iv _ => tl - (intOf iv).toNat)
  case atStart => exact ⟨0, Nat.zero_le _, rfl, fun j hj => by omega, Below.refl _ _⟩
  case round =>
    obtain ⟨i, hi, rfl, hag, hlow⟩ := hrel
    have HAG := Lib.hid hag
    have HLOW := Lib.hid hlow
    obtain ⟨hAr, hBr, hxa, hxb, hlr⟩ := HW.out wr hlow
    have HLR := Lib.hid hlr
    have a0 := (cell_of hxa 0).trans rfl
    have b0 := (cell_of hxb 0).trans rfl
    have HXA := Lib.hid hxa
    have HXB := Lib.hid hxb
    clear hag hlow hlr hxa hxb
    by_cases hin : i < tl
    · have hir : i < tr := by rw [← H2.out]; exact hin
      have hiL : i < S.tops.length := by rw [HTL.out]; exact hin
      have hiR : i < R.tops.length := by rw [HTR.out]; exact hir
      obtain ⟨q1, c1, e1, _, hA1⟩ := hAr.tops
      injection e1 with e11 e12 e13
      subst e11
      clear e12
      obtain ⟨ga, oa, rfl, hA2⟩ := hA1.resolve_left (by intro e; have := congrArg List.length e; rw [tcells_length] at this; simp at this; omega)
      obtain ⟨c0, c1'⟩ := top_cells hA2 hiL
      obtain ⟨q2, c2, e2, _, hB1⟩ := hBr.tops
      injection e2 with e21 e22 e23
      subst e21
      clear e22
      obtain ⟨gb, ob, rfl, hB2⟩ := hB1.resolve_left (by intro e; have := congrArg List.length e; rw [tcells_length] at this; simp at this; omega)
      obtain ⟨d0, d1⟩ := top_cells hB2 hiR
      clear hAr hBr hA1 hA2 hB1 hB2 e13 e23
      generalize hx : S.tops.getD i default = x at *
      generalize hy : R.tops.getD i default = y at *
      have hnq := fun W => neq_topR x y W
      have HX := Lib.hid hx
      have HY := Lib.hid hy
      clear hx hy
      go_upto_region 6 with fail
      by_cases he : x = y
      · have HAG2 := Lib.hid (agree_succ HAG.out default hiL hiR (by rw [HX.out, HY.out]; exact he))
        rw [decide_eq_true he] at hnq
        clear he
        go_region
        all_goals
          go_wp2_with fail
          go_roundw
          case rel => exact ⟨i + 1, by omega, by go_num, HAG2.out, HLOW.out.drew⟩
          case measure => simp [intOf]; omega
      · have HF : Hid (q = false) := Lib.hid (by rw [← HQ.out]; exact decide_eq_false (scr_ne (.inl (agree_not (i := i) default (by rw [HX.out, HY.out]; exact he)))))
        rw [decide_eq_false he] at hnq
        clear he
        go_region
        all_goals
          go_wp2_with fail
          go_ret
          exact ⟨by rw [HF.out]; rfl, by rw [HRBE.out]; exact HLR.out.drew⟩
    have hie : i = tl := by omega
    subst hie
    have HT1 : Hid (S.tops = R.tops) := Lib.hid (agree_all (by rw [HTL.out, HTR.out]; exact H2.out) (by rw [HTL.out]; exact HAG.out))
    clear hAr hBr HAG
    go_wp2_with fail
    clear a0 b0
    have HLOW1 := HLOW
    clear HLOW HLR HXA HXB
    generalize wr = w1 at *
    go_loopw [6] (fun iv wr => ∃ j : Nat, j ≤ sl ∧ iv = .int .i64 j ∧ Agree S.sch R.sch j ∧ Below w0.heap.size w0 wr) (fun iv _ => sl - (intOf iv).toNat)
    case atStart => exact ⟨0, Nat.zero_le _, rfl, fun j hj => by omega, HLOW1.out⟩
    case round =>
      obtain ⟨j, hj, rfl, hag, hlow⟩ := hrel
      have HAG := Lib.hid hag
      have HLOW := Lib.hid hlow
      obtain ⟨hAr, hBr, hxa, hxb, hlr⟩ := HW.out wr hlow
      have HLR := Lib.hid hlr
      have a2 := (cell_of hxa 2).trans rfl
      have b2 := (cell_of hxb 2).trans rfl
      clear hag hlow hlr hxa hxb
      by_cases hin : j < sl
      · have hir : j < sr := by rw [← H4.out]; exact hin
        have hiL : j < S.sch.length := by rw [HSL.out]; exact hin
        have hiR : j < R.sch.length := by rw [HSR.out]; exact hir
        obtain ⟨q1, c1, e1, _, hA1⟩ := hAr.sch
        injection e1 with e11 e12 e13
        subst e11
        clear e12
        obtain ⟨ga, oa, rfl, hA2⟩ := hA1.resolve_left (by intro e; have := congrArg List.length e; simp [ncells] at this; rw [this] at hiL; simp at hiL)
        have c0 := sch_cell hA2 hiL
        obtain ⟨q2, c2, e2, _, hB1⟩ := hBr.sch
        injection e2 with e21 e22 e23
        subst e21
        clear e22
        obtain ⟨gb, ob, rfl, hB2⟩ := hB1.resolve_left (by intro e; have := congrArg List.length e; simp [ncells] at this; rw [this] at hiR; simp at hiR)
        have d0 := sch_cell hB2 hiR
        clear hAr hBr hA1 hA2 hB1 hB2 e13 e23
        generalize hx : S.sch.getD j 0 = x at *
        generalize hy : R.sch.getD j 0 = y at *
        have HX := Lib.hid hx
        have HY := Lib.hid hy
        clear hx hy
        go_upto_region 11 with fail
        by_cases he : x = y
        · have HAG2 := Lib.hid (agree_succ HAG.out (0 : Int) hiL hiR (by rw [HX.out, HY.out]; exact he))
          have hnb : (x != y) = false := by simpa using he
          subst he
          go_region
          all_goals
            go_wp2_with fail
            go_roundw
            case rel => exact ⟨j + 1, by omega, by go_num, HAG2.out, HLOW.out.drew⟩
            case measure => simp [intOf]; omega
        · have HF : Hid (q = false) := Lib.hid (by rw [← HQ.out]; exact decide_eq_false (scr_ne (.inr (.inr (.inl (agree_not (i := j) (0 : Int) (by rw [HX.out, HY.out]; exact he)))))))
          have hnb : (x != y) = true := by simpa using he
          clear he
          go_region
          all_goals
            go_wp2_with fail
            go_ret
            exact ⟨by rw [HF.out]; rfl, by rw [HRBE.out]; exact HLR.out.drew⟩
      have hie : j = sl := by omega
      subst hie
      have HT2 : Hid (S.sch = R.sch) := Lib.hid (agree_all (by rw [HSL.out, HSR.out]; exact H4.out) (by rw [HSL.out]; exact HAG.out))
      clear hAr hBr HAG
      go_wp2_with fail
      clear a2 b2
      have HLOW2 := HLOW
      clear HLOW HLOW1 HLR
      generalize wr = w2 at *
      have hszw : rb + 2 = w0.heap.size := HS2.out.symm
      have HSZ := Lib.hid hszw
      clear hszw
      go_loopw [7] (fun iv wr => ∃ k : Nat, k ≤ hl ∧ iv = .int .i64 k ∧ Agree S.thrs R.thrs k ∧ Below w0.heap.size w0 wr) (fun iv _ => hl - (intOf iv).toNat)
      case atStart => exact ⟨0, Nat.zero_le _, rfl, fun j hj => by omega, HLOW2.out⟩
      case round =>
        obtain ⟨k, hk, rfl, hag, hlow⟩ := hrel
        have HAG := Lib.hid hag
        have HLOW := Lib.hid hlow
        obtain ⟨hAr, hBr, hxa, hxb, hlr⟩ := HW.out wr hlow
        have HLR := Lib.hid hlr
        have a1 := (cell_of hxa 1).trans rfl
        have b1 := (cell_of hxb 1).trans rfl
        clear hag hlow hlr hxa hxb
        by_cases hin : k < hl
        · have hir : k < hr := by rw [← H3.out]; exact hin
          have hiL : k < S.thrs.length := by rw [HHL.out]; exact hin
          have hiR : k < R.thrs.length := by rw [HHR.out]; exact hir
          obtain ⟨q1, c1, e1, _, hA1⟩ := hAr.thrs
          injection e1 with e11 e12 e13
          subst e11
          clear e12
          obtain ⟨ga, oa, rfl, hA2⟩ := hA1.resolve_left (by intro e; have := congrArg List.length e; rw [hcells_length] at this; simp at this; omega)
          obtain ⟨q2, c2, e2, _, hB1⟩ := hBr.thrs
          injection e2 with e21 e22 e23
          subst e21
          clear e22
          obtain ⟨gb, ob, rfl, hB2⟩ := hB1.resolve_left (by intro e; have := congrArg List.length e; rw [hcells_length] at this; simp at this; omega)
          obtain ⟨na, va⟩ := hcell_name hA2 hiL
          obtain ⟨nb, vb⟩ := hcell_name hB2 hiR
          have hEA := hAr.each k hiL
          have hEB := hBr.each k hiR
          have HEA := Lib.hid hEA
          have HEB := Lib.hid hEB
          obtain ⟨pva, cva, eva, _, _⟩ := hEA
          obtain ⟨pvb, cvb, evb, _, _⟩ := hEB
          have hza := HZA.out.ops _ (getD_mem hiL)
          have hzb := HZB.out.ops _ (getD_mem hiR)
          clear hAr hBr hA1 hB1 hA2 hB2 e13 e23
          rw [eva] at va HEA
          rw [evb] at vb HEB
          clear eva evb
          have HTX : Hid ((S.thrs.getD k default).name = (R.thrs.getD k default).name → (S.thrs.getD k default).ops = (R.thrs.getD k default).ops → S.thrs.getD k default = R.thrs.getD k default) := Lib.hid (fun h1 h2 => thr_ext h1 h2)
          generalize hti : S.thrs.getD k default = ti at *
          generalize htj : R.thrs.getD k default = tj at *
          have HTI := Lib.hid hti
          have HTJ := Lib.hid htj
          clear hti htj
          obtain ⟨n1', o1⟩ := ti
          obtain ⟨n2', o2⟩ := tj
          simp only at *
          have hwlt := World.block_lt_of_cell? _ _ nb
          have hwlt2 := World.block_lt_of_cell? _ _ b1
          simp only at hwlt hwlt2
          have hs1 : (wr.alloc (.cells #[.string ⟨n1'.toArray⟩, .slice pva o1.length cva] 83)).heap.size = wr.heap.size + 1 := by simp
          have HSN : Hid (((wr.alloc (.cells #[.string ⟨n1'.toArray⟩, .slice pva o1.length cva] 83)).alloc (.cells #[.string ⟨n2'.toArray⟩, .slice pvb o2.length cvb] 83)).heap.size = wr.heap.size + 2) := Lib.hid (by simp)
          have HNA : Hid (((wr.alloc (.cells #[.string ⟨n1'.toArray⟩, .slice pva o1.length cva] 83)).alloc (.cells #[.string ⟨n2'.toArray⟩, .slice pvb o2.length cvb] 83)).heap[wr.heap.size]? = some (.cells #[.string ⟨n1'.toArray⟩, .slice pva o1.length cva] 83 (0, 0))) := Lib.hid ((Below.heap_alloc _ _ _ (by omega)).trans (heap_alloc_new wr _))
          have HNB : Hid (((wr.alloc (.cells #[.string ⟨n1'.toArray⟩, .slice pva o1.length cva] 83)).alloc (.cells #[.string ⟨n2'.toArray⟩, .slice pvb o2.length cvb] 83)).heap[wr.heap.size + 1]? = some (.cells #[.string ⟨n2'.toArray⟩, .slice pvb o2.length cvb] 83 (0, 0))) := Lib.hid (by rw [← hs1]; exact heap_alloc_new _ _)
          have HNL : Hid (Below wr.heap.size wr ((wr.alloc (.cells #[.string ⟨n1'.toArray⟩, .slice pva o1.length cva] 83)).alloc (.cells #[.string ⟨n2'.toArray⟩, .slice pvb o2.length cvb] 83))) := Lib.hid (((Below.refl _ _).alloc (Nat.le_refl _) _).alloc (by simp) _)
          clear hs1
          go_upto_region 18 with fail
          generalize (wr.alloc (.cells #[.string ⟨n1'.toArray⟩, .slice pva o1.length cva] 83)).alloc (.cells #[.string ⟨n2'.toArray⟩, .slice pvb o2.length cvb] 83) = wn at *
          have HLN : Hid (Below rb w wn) := Lib.hid (HLR.out.trans (HNL.out.mono (by have := HLOW.out.size; have := HSZ.out; omega)))
          have HBN : Hid (Below w0.heap.size w0 wn) := Lib.hid (HLOW.out.trans (HNL.out.mono HLOW.out.size))
          have HEA2 := Lib.hid (HEA.out.below HNL.out)
          have HEB2 := Lib.hid (HEB.out.below HNL.out)
          clear HEA HEB HNL
          generalize wr.heap.size = px at *
          have x0 := (cell_of HNA.out 0).trans rfl
          have x1 := (cell_of HNA.out 1).trans rfl
          have y0 := (cell_of HNB.out 0).trans rfl
          have y1 := (cell_of HNB.out 1).trans rfl
          clear na va nb vb a1 b1 hwlt hwlt2
          by_cases hnm : n1' = n2'
          case neg =>
            have HF : Hid (q = false) := Lib.hid (by
              rw [← HQ.out]
              refine decide_eq_false (scr_ne (.inr (.inl (agree_not (i := k) default ?_))))
              rw [HTI.out, HTJ.out]
              intro e
              exact hnm (Thr.mk.inj e).1)
            go_wp2_with fail
            go_ret
            exact ⟨by rw [HF.out]; rfl, by rw [HRBE.out]; exact HLN.out⟩
          by_cases hlo : o1.length = o2.length
          case neg =>
            have HF : Hid (q = false) := Lib.hid (by
              rw [← HQ.out]
              refine decide_eq_false (scr_ne (.inr (.inl (agree_not (i := k) default ?_))))
              rw [HTI.out, HTJ.out]
              intro e
              exact hlo (by rw [(Thr.mk.inj e).2]))
            have hlb : ((o1.length : Int) != (o2.length : Int)) = true := by simpa using fun e => hlo (Int.ofNat.inj e)
            clear hlo
            go_wp2_with fail
            go_ret
            exact ⟨by rw [HF.out]; rfl, by rw [HRBE.out]; exact HLN.out⟩
          have hlb : ((o1.length : Int) != (o2.length : Int)) = false := by rw [hlo]; simp
          have HNM := Lib.hid hnm
          have HLO := Lib.hid hlo
          clear hlo
          go_wp2_with fail
          clear hnm hlb x0 x1 y0 y1
          generalize hol : o1.length = ol at *
          generalize hor : o2.length = olr at *
          have HOL := Lib.hid hol
          have HOR := Lib.hid hor
          clear hol hor
          clear HLOW HLR
          generalize wr = w3 at *
          go_loopw [10] (fun iv wr => ∃ m : Nat, m ≤ ol ∧ iv = .int .i64 m ∧ Agree o1 o2 m ∧ ∃ dr, wr = wn.drewN dr) (fun iv _ => ol - (intOf iv).toNat)
          case atStart => exact ⟨0, Nat.zero_le _, rfl, fun j hj => by omega, 0, rfl⟩
          case round =>
            obtain ⟨m, hm, rfl, hag, dr, hwr⟩ := hrel
            have HCE : Hid (∀ a, wr.cell? a = wn.cell? a) := Lib.hid (fun a => by rw [hwr]; rfl)
            have HWR := Lib.hid hwr
            clear hwr
            have HAG4 := Lib.hid hag
            have x1 : wr.cell? ⟨px, 1, none⟩ = some (.slice pva ol cva) := (HCE.out _).trans ((cell_of HNA.out 1).trans rfl)
            have y1 : wr.cell? ⟨px + 1, 1, none⟩ = some (.slice pvb olr cvb) := (HCE.out _).trans ((cell_of HNB.out 1).trans rfl)
            clear hag
            by_cases hin4 : m < ol
            · have hir4 : m < olr := by rw [← HLO.out]; exact hin4
              have hiL4 : m < o1.length := by rw [HOL.out]; exact hin4
              have hiR4 : m < o2.length := by rw [HOR.out]; exact hir4
              obtain ⟨q1, c1, e1, _, hA1⟩ := HEA2.out
              injection e1 with e11 e12 e13
              subst e11
              clear e12
              obtain ⟨gA, oA, rfl, hA2⟩ := hA1.resolve_left (by intro e; have := congrArg List.length e; rw [ocells_length] at this; simp at this; omega)
              obtain ⟨q2, c2, e2, _, hB1⟩ := HEB2.out
              injection e2 with e21 e22 e23
              subst e21
              clear e22
              obtain ⟨gB, oB, rfl, hB2⟩ := hB1.resolve_left (by intro e; have := congrArg List.length e; rw [ocells_length] at this; simp at this; omega)
              have A0 : ∀ j, j < 4 → wr.cell? ⟨gA, oA + (m * 4 + j), none⟩ = (ocell (o1.getD m default))[j]? := fun j hj => by
                have h := hA2 (m * 4 + j) (by rw [ocells_length]; omega)
                rw [ocells_get _ _ _ hiL4 hj] at h
                rw [HCE.out]
                exact h
              have B0 : ∀ j, j < 4 → wr.cell? ⟨gB, oB + (m * 4 + j), none⟩ = (ocell (o2.getD m default))[j]? := fun j hj => by
                have h := hB2 (m * 4 + j) (by rw [ocells_length]; omega)
                rw [ocells_get _ _ _ hiR4 hj] at h
                rw [HCE.out]
                exact h
              have p0 : wr.cell? ⟨gA, oA + m * 4, none⟩ = some (.int .i64 (o1.getD m default).k) := by have h := A0 0 (by omega); rw [← Nat.add_assoc] at h; exact h
              have r0 : wr.cell? ⟨gB, oB + m * 4, none⟩ = some (.int .i64 (o2.getD m default).k) := by have h := B0 0 (by omega); rw [← Nat.add_assoc] at h; exact h
              have p1 : wr.cell? ⟨gA, oA + m * 4 + 1, none⟩ = some (.int .i64 (o1.getD m default).a) := by have h := A0 1 (by omega); rw [← Nat.add_assoc] at h; exact h
              have r1 : wr.cell? ⟨gB, oB + m * 4 + 1, none⟩ = some (.int .i64 (o2.getD m default).a) := by have h := B0 1 (by omega); rw [← Nat.add_assoc] at h; exact h
              have p2 : wr.cell? ⟨gA, oA + m * 4 + 2, none⟩ = some (.int .i64 (o1.getD m default).b) := by have h := A0 2 (by omega); rw [← Nat.add_assoc] at h; exact h
              have r2 : wr.cell? ⟨gB, oB + m * 4 + 2, none⟩ = some (.int .i64 (o2.getD m default).b) := by have h := B0 2 (by omega); rw [← Nat.add_assoc] at h; exact h
              have p3 : wr.cell? ⟨gA, oA + m * 4 + 3, none⟩ = some (.int .i64 (o1.getD m default).c) := by have h := A0 3 (by omega); rw [← Nat.add_assoc] at h; exact h
              have r3 : wr.cell? ⟨gB, oB + m * 4 + 3, none⟩ = some (.int .i64 (o2.getD m default).c) := by have h := B0 3 (by omega); rw [← Nat.add_assoc] at h; exact h
              clear A0 B0 hA1 hA2 hB1 hB2 e13 e23
              generalize hx : o1.getD m default = x at *
              generalize hy : o2.getD m default = y at *
              have hnq := fun W => neq_opn x y W
              have HX := Lib.hid hx
              have HY := Lib.hid hy
              clear hx hy
              go_upto_region 23 with fail
              by_cases he : x = y
              · have HAG2 := Lib.hid (agree_succ HAG4.out default hiL4 hiR4 (by rw [HX.out, HY.out]; exact he))
                rw [decide_eq_true he] at hnq
                clear he
                go_region
                all_goals
                  go_wp2_with fail
                  go_roundw
                  case rel => exact ⟨m + 1, by omega, by go_num, HAG2.out, dr + 1, by rw [HWR.out]; rfl⟩
                  case measure => simp [intOf]; omega
              · have HF : Hid (q = false) := Lib.hid (by
                  rw [← HQ.out]
                  refine decide_eq_false (scr_ne (.inr (.inl (agree_not (i := k) default ?_))))
                  rw [HTI.out, HTJ.out]
                  intro e
                  exact agree_not (i := m) default (by rw [HX.out, HY.out]; exact he) (Thr.mk.inj e).2)
                rw [decide_eq_false he] at hnq
                clear he
                go_region
                all_goals
                  go_wp2_with fail
                  go_ret
                  exact ⟨by rw [HF.out]; rfl, by rw [HRBE.out, HWR.out]; exact (below_drewN HLN.out dr).drew⟩
            have hie4 : m = ol := by omega
            have HE2 : Hid (S.thrs.getD k default = R.thrs.getD k default) := Lib.hid (by
              rw [HTI.out, HTJ.out]
              exact thr_ext HNM.out (agree_all (by rw [HOL.out, HOR.out]; exact HLO.out) (by rw [HOL.out, ← hie4]; exact HAG4.out)))
            have HAG2 := Lib.hid (agree_succ HAG.out default hiL hiR HE2.out)
            go_wp2_with fail
            go_roundw
            case rel => exact ⟨k + 1, by omega, by go_num, HAG2.out, by rw [HWR.out]; exact below_drewN HBN.out _⟩
            case measure => simp [intOf]; omega
        have hie : k = hl := by omega
        subst hie
        have HT3 : Hid (S.thrs = R.thrs) := Lib.hid (agree_all (by rw [HHL.out, HHR.out]; exact H3.out) (by rw [HHL.out]; exact HAG.out))
        have HT : Hid (q = true) := Lib.hid (by
          rw [← HQ.out]
          refine decide_eq_true ?_
          have e1 := H1.out
          have e2 := HT1.out
          have e3 := HT2.out
          have e4 := HT3.out
          cases S; cases R
          simp_all)
        clear hAr hBr HAG
        go_wp2_with fail
        go_ret
        exact ⟨by rw [HT.out]; rfl, by rw [HRBE.out]; exact HLR.out⟩
end Go.Proofs.YtdmhlhoimaeacaaDoor
