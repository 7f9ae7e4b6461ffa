/-
  The reference's Check (f20).
-/
import Derived.Test.YtdmhlhoimaeacaaDoorCheckS
import Derived.Test.YtdmhlhoimaeacaaDoorRefSays2
namespace Go.Proofs.YtdmhlhoimaeacaaDoor
open Go.RowKit Go.Maps
set_option linter.unusedVariables false

/-! Plain. -/
theorem all_tk {α : Type} {L : List α} {i : Nat} (h : i < L.length) (d : α) (p : α → Bool) : (L.take (i + 1)).all p = ((L.take i).all p && p (L.getD i d)) := by
  rw [take_snoc h d, List.all_append]
  simp
theorem okTop_in (t : Top) : okTop t = inW t.s 0 65536 := rfl
theorem okSch_in (n : Int) : okSch n = inW n 0 2147483647 := rfl
theorem fields_in (S : Scr) : fieldsF S = ((((inW S.most 0 1048576) && (S.tops.take S.tops.length).all okTop) && (S.sch.take S.sch.length).all okSch) && (S.thrs.take S.thrs.length).all okThr) := by
  rw [List.take_length, List.take_length, List.take_length]
  rfl
theorem name_getD (S : Scr) {i : Nat} (h : i < S.thrs.length) : (S.thrs.map Thr.name)[i]? = some (S.thrs.getD i default).name := by
  simp [List.getD, List.getElem?_eq_getElem h]
/-- The j-th name is none of the first i. -/
theorem name_new (S : Scr) {i k : Nat} (h : i < S.thrs.length) (hk : i ≤ k) (hn : ∀ j, j < k → j < i → (S.thrs.getD i default).name ≠ (S.thrs.getD j default).name) : (S.thrs.getD i default).name ∉ (S.thrs.map Thr.name).take i := by
  intro hm
  obtain ⟨j, hj, he⟩ := List.getElem_of_mem hm
  have hji : j < i := by rw [List.length_take] at hj; omega
  have hjl : j < S.thrs.length := by omega
  apply hn j (by omega) hji
  rw [← he, List.getElem_take]
  simp [List.getD, List.getElem?_eq_getElem hjl]
theorem name_twice (S : Scr) {i k : Nat} (h : i < S.thrs.length) (hk : k < i) (he : (S.thrs.getD i default).name = (S.thrs.getD k default).name) : (S.thrs.getD i default).name ∈ (S.thrs.map Thr.name).take i := by
  rw [he]
  have hkl : k < S.thrs.length := by omega
  rw [List.mem_iff_getElem?]
  refine ⟨k, ?_⟩
  rw [List.getElem?_take]
  rw [if_pos hk, name_getD S hkl]

set_option maxRecDepth 100000 in
set_option maxHeartbeats 16000000 in
theorem refCheck_walk (tv hv sv : Value) (V : Nat → Value) (S : Scr) (w : World) (h : ScrAt w tv hv sv V S) (z : SmallS S) (hO : ∀ t ∈ S.thrs, ∀ o ∈ t.ops, In64O o) :
    Calls Tryd.prog 20 #[.agg #[tv, hv, sv, .int .i64 S.most]] w (CheckD S w) := by
  have hb2 : Below w.heap.size w (w.alloc (.cells #[tv, hv, sv, .int .i64 S.most] 34)) := (Below.refl _ _).alloc (Nat.le_refl _) _
  have HA := Lib.hid (h.below hb2)
  have HB2 := Lib.hid hb2
  have HX := Lib.hid (heap_alloc_new w (.cells #[tv, hv, sv, .int .i64 S.most] 34))
  obtain ⟨pt, ct, rfl, hct, _⟩ := h.tops
  obtain ⟨ph, ch, rfl, hch, _⟩ := h.thrs
  obtain ⟨ps, cs, rfl, hcs, _⟩ := h.sch
  have hzt : S.tops.length ≤ 4000000 := z.tops
  have hzh : S.thrs.length ≤ 4000000 := z.thrs
  have hzs : S.sch.length ≤ 4000000 := z.sch
  have HZ := Lib.hid z
  have HO := Lib.hid hO
  have HSZ : Hid ((w.alloc (.cells #[.slice pt S.tops.length ct, .slice ph S.thrs.length ch, .slice ps S.sch.length cs, .int .i64 S.most] 34)).heap.size = w.heap.size + 1) := Lib.hid (by simp)
  have HC1 := Lib.hid (fun h => check_big (S := S) h)
  have HC2 := Lib.hid (fun h => check_ops (S := S) h)
  have HC3 := Lib.hid (fun h h2 h3 => check_dup (S := S) h h2 h3)
  have HC4 := Lib.hid (fun h h2 h3 => check_end (S := S) h h2 h3)
  have HQ := Lib.hid (fields_in S)
  have HIN := Lib.hid (fun n lo hi W => inw_walk n lo hi W)
  unfold CheckD
  generalize checkF S = cr at *
  generalize fieldsF S = fr at *
  clear h z hb2 hO hct hch hcs
  go_enter Tryd.func20, Tryd.ntmps20
  go_upto_region 1 with fail
  generalize w.alloc (.cells #[.slice pt S.tops.length ct, .slice ph S.thrs.length ch, .slice ps S.sch.length cs, .int .i64 S.most] 34) = w0 at *
  generalize hrb : w.heap.size = rb at *
  have HRBE := Lib.hid hrb
  clear hrb
  have HW : Hid (∀ W, Below (rb + 1) w0 W → ScrAt W (.slice pt S.tops.length ct) (.slice ph S.thrs.length ch) (.slice ps S.sch.length cs) V S ∧ W.heap[rb]? = some (.cells #[.slice pt S.tops.length ct, .slice ph S.thrs.length ch, .slice ps S.sch.length cs, .int .i64 S.most] 34 (0, 0)) ∧ Below rb w W) := Lib.hid (fun W hW => by
    have h1 : Below w0.heap.size w0 W := by rw [HSZ.out]; exact hW
    exact ⟨HA.out.below h1, (h1.block rb (by have := HSZ.out; omega)).trans HX.out, HB2.out.trans (hW.mono (Nat.le_succ rb))⟩)
  clear HA HB2
  obtain ⟨_, hx0, hl0⟩ := HW.out w0 (Below.refl _ _)
  have HL0 := Lib.hid hl0
  have HX0 := Lib.hid hx0
  clear hx0 hl0 HX
  have a0 := (cell_of HX0.out 0).trans rfl
  have a1 := (cell_of HX0.out 1).trans rfl
  have a2 := (cell_of HX0.out 2).trans rfl
  generalize htl : S.tops.length = tl at *
  generalize hhl : S.thrs.length = hl at *
  generalize hsl : S.sch.length = sl at *
  have HTL := Lib.hid htl
  have HHL := Lib.hid hhl
  have HSL := Lib.hid hsl
  clear htl hhl hsl
  rcases (by omega : 64 < hl ∨ (¬ 64 < hl ∧ 65536 < tl) ∨ (¬ 64 < hl ∧ ¬ 65536 < tl ∧ 1048576 < sl) ∨ (¬ 64 < hl ∧ ¬ 65536 < tl ∧ ¬ 1048576 < sl)) with h1 | ⟨h1, h2⟩ | ⟨h1, h2, h3⟩ | ⟨h1, h2, h3⟩
  · have HF : Hid (cr = 3) := Lib.hid (HC1.out (.inl h1))
    have g1 : (hl : Int) > 64 := by omega
    go_wp2_with fail
    go_ret
    exact ⟨by rw [HF.out]; rfl, by rw [HRBE.out]; exact HL0.out⟩
  · have HF : Hid (cr = 3) := Lib.hid (HC1.out (.inr (.inl h2)))
    have g1 : ¬ (hl : Int) > 64 := by omega
    have g2 : (tl : Int) > 65536 := by omega
    go_wp2_with fail
    go_ret
    exact ⟨by rw [HF.out]; rfl, by rw [HRBE.out]; exact HL0.out⟩
  · have HF : Hid (cr = 3) := Lib.hid (HC1.out (.inr (.inr h3)))
    have g1 : ¬ (hl : Int) > 64 := by omega
    have g2 : ¬ (tl : Int) > 65536 := by omega
    have g3 : (sl : Int) > 1048576 := by omega
    go_wp2_with fail
    go_ret
    exact ⟨by rw [HF.out]; rfl, by rw [HRBE.out]; exact HL0.out⟩
  have HNB : Hid (¬ (64 < hl ∨ 65536 < tl ∨ 1048576 < sl)) := Lib.hid (by omega)
  have h64 : hl ≤ 64 := by omega
  have g1 : ¬ (hl : Int) > 64 := by omega
  have g2 : ¬ (tl : Int) > 65536 := by omega
  have g3 : ¬ (sl : Int) > 1048576 := by omega
  clear h1 h2 h3
  go_wp2_with fail
  clear a0 a1 a2 g1 g2 g3
  go_loopw [3] (fun iv wr => ∃ i : Nat, i ≤ hl ∧ iv = .int .i64 i ∧ (∀ j, j < i → (S.thrs.getD j default).ops.length ≤ 65536) ∧ Below (rb + 1) w0 wr) (fun iv _ => hl - (intOf iv).toNat)
  case atStart => exact ⟨0, Nat.zero_le _, rfl, fun j hj => by omega, Below.refl _ _⟩
  case round =>
    obtain ⟨i, hi, rfl, hok, hlow⟩ := hrel
    have HOK := Lib.hid hok
    have HLOW := Lib.hid hlow
    obtain ⟨hAr, hxr, hlr⟩ := HW.out wr hlow
    have HLR := Lib.hid hlr
    have a1 := (cell_of hxr 1).trans rfl
    clear hok hlow hxr hlr
    by_cases hin : i < hl
    · have hiL : i < S.thrs.length := by rw [HHL.out]; exact hin
      obtain ⟨q1, c1, e1, _, hA1⟩ := hAr.thrs
      injection e1 with e11 e12 e13
      subst e11
      clear e12
      obtain ⟨ga, oa, rfl, hA2⟩ := hA1.resolve_left (by intro e; have := congrArg List.length e; rw [hcells_length] at this; simp at this; omega)
      obtain ⟨cn, cv⟩ := hcell_name hA2 hiL
      have hEA := hAr.each i hiL
      have hoz : (S.thrs.getD i default).ops.length ≤ 4000000 := HZ.out.ops _ (getD_mem hiL)
      obtain ⟨pv, cvv, ev, _, _⟩ := hEA
      clear hAr hA1 hA2 e13
      rw [ev] at cv
      clear ev
      generalize htt : S.thrs.getD i default = t at *
      have HTT := Lib.hid htt
      clear htt
      obtain ⟨tn, ops⟩ := t
      simp only at *
      by_cases hbg : 65536 < ops.length
      · have HF : Hid (cr = 3) := Lib.hid (HC2.out (any_yes (i := i) default hiL (by rw [HTT.out]; exact decide_eq_true hbg)))
        have g1 : (ops.length : Int) > 65536 := by omega
        go_wp2_with fail
        go_ret
        exact ⟨by rw [HF.out]; rfl, by rw [HRBE.out]; exact HLR.out⟩
      · have HOK2 : Hid ((S.thrs.getD i default).ops.length ≤ 65536) := Lib.hid (by rw [HTT.out]; simp only; omega)
        have g1 : ¬ (ops.length : Int) > 65536 := by omega
        go_wp2_with fail
        go_roundw
        case rel => exact ⟨i + 1, by omega, by go_num, fun j hj => by rcases Nat.lt_or_ge j i with h | h; exact HOK.out j h; rw [show j = i by omega]; exact HOK2.out, HLOW.out⟩
        case measure => simp [intOf]; omega
    have hie : i = hl := by omega
    subst hie
    have HNA : Hid (S.thrs.any (fun t => decide (65536 < t.ops.length)) = false) := Lib.hid (any_none default (fun j hj => decide_eq_false (by have := HOK.out j (by rw [HHL.out] at hj; exact hj); omega)))
    clear HOK hAr hin HC2 HC1
    go_wp2_with fail
    clear a1
    have HLOW1 := HLOW
    clear HLOW HLR
    generalize wr = w1 at *
    generalize hhl0 : i = hl0 at *
    clear hhl0
    go_loopw [4] (fun iv wr => ∃ i : Nat, i ≤ hl0 ∧ iv = .int .i64 i ∧ ((S.thrs.map Thr.name).take i).Nodup ∧ Below (rb + 1) w0 wr) (fun iv _ => hl0 - (intOf iv).toNat)
    case atStart => exact ⟨0, Nat.zero_le _, rfl, by simp, HLOW1.out⟩
    case round =>
      obtain ⟨i, hi, rfl, hnd, hlow⟩ := hrel
      have HND := Lib.hid hnd
      have HLOW := Lib.hid hlow
      obtain ⟨hAr, hxr, hlr⟩ := HW.out wr hlow
      have HLR := Lib.hid hlr
      have a1 := (cell_of hxr 1).trans rfl
      have HXR := Lib.hid hxr
      clear hnd hlow hxr hlr
      by_cases hin : i < hl0
      · have hiL : i < S.thrs.length := by rw [HHL.out]; exact hin
        have HMORE := Lib.hid (more_names S hiL HND.out)
        have HDUP := Lib.hid (dup_names S hiL)
        have HNEWN := Lib.hid (fun k hk h => name_new S (k := k) hiL hk h)
        have HTW := Lib.hid (fun k hk h => name_twice S (k := k) hiL hk h)
        generalize hti : (S.thrs.getD i default).name = ni at *
        have HTI := Lib.hid hti
        clear hti hAr
        go_wp2_with fail
        clear a1
        have HLOW2 := HLOW
        clear HLOW HLR HXR
        generalize wr = w2 at *
        go_loopw [5] (fun kv wr => ∃ k : Nat, k ≤ i ∧ kv = .int .i64 k ∧ (∀ j, j < k → ni ≠ (S.thrs.getD j default).name) ∧ Below (rb + 1) w0 wr) (fun kv _ => i - (intOf kv).toNat)
        case atStart => exact ⟨0, Nat.zero_le _, rfl, fun j hj => by omega, HLOW2.out⟩
        case round =>
          obtain ⟨k, hk, rfl, hno, hlow⟩ := hrel
          have HNO := Lib.hid hno
          have HLOW := Lib.hid hlow
          obtain ⟨hAr, hxr, hlr⟩ := HW.out wr hlow
          have HLR := Lib.hid hlr
          clear hno hlow hlr
          by_cases hik : k < i
          · have a1 := (cell_of hxr 1).trans rfl
            have hkL : k < S.thrs.length := by omega
            obtain ⟨q1, c1, e1, _, hA1⟩ := hAr.thrs
            injection e1 with e11 e12 e13
            subst e11
            clear e12
            obtain ⟨ga, oa, rfl, hA2⟩ := hA1.resolve_left (by intro e; have := congrArg List.length e; rw [hcells_length] at this; simp at this; omega)
            obtain ⟨cn, _⟩ := hcell_name hA2 hiL
            obtain ⟨cm, _⟩ := hcell_name hA2 hkL
            rw [HTI.out] at cn
            clear hAr hA1 hA2 e13 hxr
            generalize htk : (S.thrs.getD k default).name = nk at *
            have HTK := Lib.hid htk
            clear htk
            have hkh : (k : Int) < (hl0 : Int) := by omega
            go_upto_region 14 with fail
            by_cases hne : ni = nk
            · have HF : Hid (cr = 7) := Lib.hid (HC3.out HNB.out HNA.out (HDUP.out (HTW.out k hik (by rw [HTK.out]; exact hne))))
              subst hne
              go_region
              all_goals
                go_wp2_with fail
                go_ret
                exact ⟨by rw [HF.out]; rfl, by rw [HRBE.out]; exact HLR.out.drew⟩
            · have hnb : (ni == nk) = false := beq_eq_false_iff_ne.2 hne
              have HNO2 : Hid (∀ j, j < k + 1 → ni ≠ (S.thrs.getD j default).name) := Lib.hid (fun j hj => by
                by_cases e : j = k
                · subst e; rw [HTK.out]; exact hne
                · exact HNO.out j (by omega))
              clear hne
              go_region
              all_goals
                go_wp2_with fail
                go_roundw
                case rel => exact ⟨k + 1, by omega, by go_num, HNO2.out, HLOW.out.drew⟩
                case measure => simp [intOf]; omega
          have hie : k = i := by omega
          have HND2 := Lib.hid (HMORE.out (HNEWN.out k (by omega) (fun j hj _ => HNO.out j hj)))
          clear hAr hxr
          go_wp2_with fail
          go_roundw
          case rel => exact ⟨i + 1, by omega, by go_num, HND2.out, HLOW.out⟩
          case measure => simp [intOf]; omega
      have hie : i = hl0 := by omega
      subst hie
      have HALL : Hid ((S.thrs.map Thr.name).Nodup) := Lib.hid (by have h := HND.out; rw [← HHL.out, ← List.length_map (f := Thr.name), List.take_length] at h; exact h)
      have HEND := Lib.hid (HC4.out HNB.out HNA.out HALL.out)
      have a3 := (cell_of HXR.out 3).trans rfl
      have a0 := (cell_of HXR.out 0).trans rfl
      clear HC3 HC4 HALL HNA HNB HND hAr hin
      go_upto_region 16 with fail
      clear a1
      go_wp2_with fail
      refine (HIN.out _ _ _ _).mono ?_
      rintro e w3 ⟨rfl, hw3⟩
      subst hw3
      generalize inW S.most 0 1048576 = gm at *
      go_wp2_with fail
      clear a0 a3
      have HLOW3 := HLOW
      clear HLOW HLOW1 HLR HXR
      generalize wr = w4 at *
      go_loopw [6, 7] (fun gv iv wr => ∃ j : Nat, j ≤ tl ∧ iv = .int .i64 j ∧ gv = .bool (gm && (S.tops.take j).all okTop) ∧ Below (rb + 1) w0 wr) (fun _ iv _ => tl - (intOf iv).toNat)
      case atStart => exact ⟨0, Nat.zero_le _, rfl, by simp, HLOW3.out⟩
      case round =>
        obtain ⟨j, hj, rfl, rfl, hlow⟩ := hrel
        have HLOW := Lib.hid hlow
        obtain ⟨hAr, hxr, hlr⟩ := HW.out wr hlow
        have a0 := (cell_of hxr 0).trans rfl
        clear hlow hlr
        by_cases hjt : j < tl
        · have hjL : j < S.tops.length := by rw [HTL.out]; exact hjt
          have HTK := Lib.hid (all_tk hjL default okTop)
          obtain ⟨q1, c1, e1, _, hA1⟩ := hAr.tops
          injection e1 with e11 e12 e13
          subst e11
          clear e12
          obtain ⟨ga, oa, rfl, hA2⟩ := hA1.resolve_left (by intro e; have := congrArg List.length e; rw [tcells_length] at this; simp at this; omega)
          obtain ⟨_, ct⟩ := top_cells hA2 hjL
          clear hAr hA1 hA2 e13 hxr
          generalize htt : S.tops.getD j default = t at *
          clear htt
          obtain ⟨tn, ts⟩ := t
          simp only at *
          have HTK2 : Hid ((gm && (S.tops.take (j + 1)).all okTop) = ((gm && (S.tops.take j).all okTop) && inW ts 0 65536)) := Lib.hid (by rw [HTK.out, ← Bool.and_assoc]; rfl)
          clear HTK
          generalize (gm && (S.tops.take j).all okTop) = g at *
          cases g with
          | false =>
            go_wp2_with fail
            go_roundw
            case rel => exact ⟨j + 1, by omega, by go_num, by rw [HTK2.out]; rfl, HLOW.out⟩
            case measure => simp [intOf]; omega
          | true =>
            go_wp2_with fail
            refine (HIN.out _ _ _ _).mono ?_
            rintro e w5 ⟨rfl, hw5⟩
            subst hw5
            generalize inW ts 0 65536 = gt at *
            go_wp2_with fail
            go_roundw
            case rel => exact ⟨j + 1, by omega, by go_num, by rw [HTK2.out]; rfl, HLOW.out⟩
            case measure => simp [intOf]; omega
        have hje : j = tl := by omega
        subst hje
        clear hAr
        generalize (gm && (S.tops.take j).all okTop) = g2 at *
        have a2 := (cell_of hxr 2).trans rfl
        clear hxr
        go_wp2_with fail
        clear a2 a0
        have HLOW4 := HLOW
        clear HLOW
        generalize wr = w6 at *
        go_loopw [6, 8] (fun gv iv wr => ∃ k : Nat, k ≤ sl ∧ iv = .int .i64 k ∧ gv = .bool (g2 && (S.sch.take k).all okSch) ∧ Below (rb + 1) w0 wr) (fun _ iv _ => sl - (intOf iv).toNat)
        case atStart => exact ⟨0, Nat.zero_le _, rfl, by simp, HLOW4.out⟩
        case round =>
          obtain ⟨k, hk, rfl, rfl, hlow⟩ := hrel
          have HLOW := Lib.hid hlow
          obtain ⟨hAr, hxr, hlr⟩ := HW.out wr hlow
          have a2 := (cell_of hxr 2).trans rfl
          clear hlow hlr
          by_cases hks : k < sl
          · have hkL : k < S.sch.length := by rw [HSL.out]; exact hks
            have HTK := Lib.hid (all_tk hkL 0 okSch)
            obtain ⟨q1, c1, e1, _, hA1⟩ := hAr.sch
            injection e1 with e11 e12 e13
            subst e11
            clear e12
            obtain ⟨ga, oa, rfl, hA2⟩ := hA1.resolve_left (by intro e; have := congrArg List.length e; simp [ncells] at this; rw [this] at hkL; simp at hkL)
            have cn := sch_cell hA2 hkL
            clear hAr hA1 hA2 e13 hxr
            generalize htt : S.sch.getD k 0 = ts at *
            clear htt
            have HTK2 : Hid ((g2 && (S.sch.take (k + 1)).all okSch) = ((g2 && (S.sch.take k).all okSch) && inW ts 0 2147483647)) := Lib.hid (by rw [HTK.out, ← Bool.and_assoc]; rfl)
            clear HTK
            generalize (g2 && (S.sch.take k).all okSch) = g at *
            cases g with
            | false =>
              go_wp2_with fail
              go_roundw
              case rel => exact ⟨k + 1, by omega, by go_num, by rw [HTK2.out]; rfl, HLOW.out⟩
              case measure => simp [intOf]; omega
            | true =>
              go_wp2_with fail
              refine (HIN.out _ _ _ _).mono ?_
              rintro e w5 ⟨rfl, hw5⟩
              subst hw5
              generalize inW ts 0 2147483647 = gt at *
              go_wp2_with fail
              go_roundw
              case rel => exact ⟨k + 1, by omega, by go_num, by rw [HTK2.out]; rfl, HLOW.out⟩
              case measure => simp [intOf]; omega
          have hke : k = sl := by omega
          subst hke
          clear hAr
          generalize (g2 && (S.sch.take k).all okSch) = g3 at *
          have a1 := (cell_of hxr 1).trans rfl
          clear hxr
          go_wp2_with fail
          clear a1 a2
          have HLOW5 := HLOW
          clear HLOW HLOW4
          generalize wr = w7 at *
          go_loopw [6, 9] (fun gv iv wr => ∃ m : Nat, m ≤ i ∧ iv = .int .i64 m ∧ gv = .bool (g3 && (S.thrs.take m).all okThr) ∧ Below (rb + 1) w0 wr) (fun _ iv _ => i - (intOf iv).toNat)
          case atStart => exact ⟨0, Nat.zero_le _, rfl, by simp, HLOW5.out⟩
          case round =>
            obtain ⟨m, hm, rfl, rfl, hlow⟩ := hrel
            have HLOW := Lib.hid hlow
            obtain ⟨hAr, hxr, hlr⟩ := HW.out wr hlow
            have HLR := Lib.hid hlr
            have a1 := (cell_of hxr 1).trans rfl
            clear hlow hlr hxr
            by_cases hmi : m < i
            · have hmL : m < S.thrs.length := by rw [HHL.out]; exact hmi
              have HTK := Lib.hid (all_tk hmL default okThr)
              obtain ⟨q1, c1, e1, _, hA1⟩ := hAr.thrs
              injection e1 with e11 e12 e13
              subst e11
              clear e12
              obtain ⟨ga, oa, rfl, hA2⟩ := hA1.resolve_left (by intro e; have := congrArg List.length e; rw [hcells_length] at this; simp at this; omega)
              have HA2 := Lib.hid hA2
              obtain ⟨cn, cv⟩ := hcell_name hA2 hmL
              have hEA := hAr.each m hmL
              have hoz : (S.thrs.getD m default).ops.length ≤ 4000000 := HZ.out.ops _ (getD_mem hmL)
              have hnz : (S.thrs.getD m default).name.length ≤ 4000000 := HZ.out.names _ (getD_mem hmL)
              have hOO := HO.out _ (getD_mem hmL)
              have HOO := Lib.hid hOO
              have HEA := Lib.hid hEA
              obtain ⟨pv, cvv, ev, _, _⟩ := hEA
              clear hAr hA1 hA2 e13 hOO
              have HCV : Hid (∀ W, Below (rb + 1) w0 W → W.cell? ⟨ga, oa + m * 2 + 1, none⟩ = some (.slice pv (S.thrs.getD m default).ops.length cvv) ∧ RowAt W (.slice pv (S.thrs.getD m default).ops.length cvv) (S.thrs.getD m default).ops.length (ocells (S.thrs.getD m default).ops)) := Lib.hid (fun W hW => by
                have hS := (HW.out W hW).1
                obtain ⟨q1, c1, e1, _, hA1⟩ := hS.thrs
                injection e1 with e11 e12 e13
                subst e11
                obtain ⟨gc, oc, e4, hA2⟩ := hA1.resolve_left (by intro e; have := congrArg List.length e; rw [hcells_length] at this; simp at this; omega)
                injection e4 with e4
                injection e4 with e4a e4b
                subst e4a e4b
                obtain ⟨_, cv⟩ := hcell_name hA2 hmL
                have hEr := hS.each m hmL
                rw [ev] at cv hEr
                exact ⟨cv, hEr⟩)
              rw [ev] at cv HEA
              clear ev HEA
              generalize htt : S.thrs.getD m default = t at *
              clear htt
              obtain ⟨tn, ops⟩ := t
              simp only at *
              have HTK2 : Hid ((g3 && (S.thrs.take (m + 1)).all okThr) = (((g3 && (S.thrs.take m).all okThr) && nameF tn) && (ops.take ops.length).all saysF)) := Lib.hid (by rw [HTK.out, List.take_length, Bool.and_assoc, Bool.and_assoc]; rfl)
              clear HTK
              have HGD := Lib.hid (fun W => good_walk ⟨tn.toArray⟩ W (by rw [size_mk]; omega))
              simp only at HGD
              have HGD2 : Hid (∀ W, Calls Tryd.prog 45 #[.string ⟨tn.toArray⟩] W fun e w' => e = .returned (.bool (nameF tn)) ∧ W = w') := HGD
              clear HGD
              generalize (g3 && (S.thrs.take m).all okThr) = g at *
              generalize nameF tn = gn at *
              generalize hol : ops.length = ol at *
              have HOL := Lib.hid hol
              clear hol
              cases g with
              | false =>
                have HG5 : Hid ((false && gn) = false) := Lib.hid rfl
                rw [HG5.out] at HTK2
                go_wp2_with fail
                clear a1 cn cv
                have HLOW6 := HLOW
                generalize wr = w8 at *
                go_loopw [6, 10] (fun gv iv wr => ∃ l : Nat, l ≤ ol ∧ iv = .int .i64 l ∧ gv = .bool (false && (ops.take l).all saysF) ∧ Below (rb + 1) w0 wr) (fun _ iv _ => ol - (intOf iv).toNat)
                case atStart => exact ⟨0, Nat.zero_le _, rfl, by simp, HLOW6.out⟩
                case round =>
                  obtain ⟨l, hl', rfl, rfl, hlow⟩ := hrel
                  have HLOW := Lib.hid hlow
                  have hlow0 := hlow
                  obtain ⟨hAr, hxr, hlr⟩ := HW.out wr hlow
                  have a1 := (cell_of hxr 1).trans rfl
                  obtain ⟨cv, hrow⟩ := HCV.out wr hlow0
                  clear hlow hlow0 hlr
                  by_cases hlo : l < ol
                  · have hlL : l < ops.length := by rw [HOL.out]; exact hlo
                    have HTL2 := Lib.hid (all_tk hlL default saysF)
                    have HTL3 : Hid ((false && (ops.take (l + 1)).all saysF) = ((false && (ops.take l).all saysF) && saysF (ops.getD l default))) := Lib.hid (by rw [HTL2.out, ← Bool.and_assoc])
                    obtain ⟨q2, c2, e2, _, hB1⟩ := hrow
                    injection e2 with e21 e22 e23
                    subst e21
                    clear e22
                    obtain ⟨gb, ob, rfl, hB2⟩ := hB1.resolve_left (by intro e; have := congrArg List.length e; rw [ocells_length] at this; simp at this; omega)
                    obtain ⟨d0, d1, d2, d3⟩ := opn_cells hB2 hlL
                    have HIO : Hid (In64O (ops.getD l default)) := Lib.hid (HOO.out _ (by simp only [List.getD, List.getElem?_eq_getElem hlL, Option.getD_some]; exact List.getElem_mem hlL))
                    clear hAr hxr hB1 hB2 e23 HTL2
                    generalize ops.getD l default = o at *
                    have HSW := Lib.hid (fun W => says_walk o HIO.out W)
                    obtain ⟨ok, oA, oB, oC⟩ := o
                    simp only at *
                    generalize saysF ⟨ok, oA, oB, oC⟩ = gs at *
                    generalize (false && (ops.take l).all saysF) = g7 at *
                    cases g7 with
                    | false =>
                      go_wp2_with fail
                      go_roundw
                      case rel => exact ⟨l + 1, by omega, by go_num, by rw [HTL3.out]; rfl, HLOW.out⟩
                      case measure => simp [intOf]; omega
                    | true =>
                      have hszr : rb + 1 ≤ wr.heap.size := by have := HLOW.out.size; have := HSZ.out; omega
                      have HSZR := Lib.hid hszr
                      clear hszr
                      go_wp2_with fail
                      refine (HSW.out _).mono ?_
                      rintro e w9 ⟨rfl, hb9⟩
                      have HB9 := Lib.hid (HLOW.out.trans (hb9.mono HSZR.out))
                      clear hb9
                      go_wp2_with fail
                      go_roundw
                      case rel => exact ⟨l + 1, by omega, by go_num, by rw [HTL3.out]; rfl, HB9.out⟩
                      case measure => simp [intOf]; omega
                  have hle : l = ol := by omega
                  subst hle
                  clear hAr hxr hrow
                  go_wp2_with fail
                  go_roundw
                  case rel => exact ⟨m + 1, by omega, by go_num, by rw [HTK2.out], HLOW.out⟩
                  case measure => simp [intOf]; omega
              | true =>
                have HG5 : Hid ((true && gn) = gn) := Lib.hid rfl
                rw [HG5.out] at HTK2
                go_wp2_with fail
                refine (HGD2.out _).mono ?_
                rintro e w5 ⟨rfl, hw5⟩
                subst hw5
                go_wp2_with fail
                clear a1 cn cv
                have HLOW6 := HLOW
                generalize wr = w8 at *
                go_loopw [6, 10] (fun gv iv wr => ∃ l : Nat, l ≤ ol ∧ iv = .int .i64 l ∧ gv = .bool (gn && (ops.take l).all saysF) ∧ Below (rb + 1) w0 wr) (fun _ iv _ => ol - (intOf iv).toNat)
                case atStart => exact ⟨0, Nat.zero_le _, rfl, by simp, HLOW6.out⟩
                case round =>
                  obtain ⟨l, hl', rfl, rfl, hlow⟩ := hrel
                  have HLOW := Lib.hid hlow
                  have hlow0 := hlow
                  obtain ⟨hAr, hxr, hlr⟩ := HW.out wr hlow
                  have a1 := (cell_of hxr 1).trans rfl
                  obtain ⟨cv, hrow⟩ := HCV.out wr hlow0
                  clear hlow hlow0 hlr
                  by_cases hlo : l < ol
                  · have hlL : l < ops.length := by rw [HOL.out]; exact hlo
                    have HTL2 := Lib.hid (all_tk hlL default saysF)
                    have HTL3 : Hid ((gn && (ops.take (l + 1)).all saysF) = ((gn && (ops.take l).all saysF) && saysF (ops.getD l default))) := Lib.hid (by rw [HTL2.out, ← Bool.and_assoc])
                    obtain ⟨q2, c2, e2, _, hB1⟩ := hrow
                    injection e2 with e21 e22 e23
                    subst e21
                    clear e22
                    obtain ⟨gb, ob, rfl, hB2⟩ := hB1.resolve_left (by intro e; have := congrArg List.length e; rw [ocells_length] at this; simp at this; omega)
                    obtain ⟨d0, d1, d2, d3⟩ := opn_cells hB2 hlL
                    have HIO : Hid (In64O (ops.getD l default)) := Lib.hid (HOO.out _ (by simp only [List.getD, List.getElem?_eq_getElem hlL, Option.getD_some]; exact List.getElem_mem hlL))
                    clear hAr hxr hB1 hB2 e23 HTL2
                    generalize ops.getD l default = o at *
                    have HSW := Lib.hid (fun W => says_walk o HIO.out W)
                    obtain ⟨ok, oA, oB, oC⟩ := o
                    simp only at *
                    generalize saysF ⟨ok, oA, oB, oC⟩ = gs at *
                    generalize (gn && (ops.take l).all saysF) = g7 at *
                    cases g7 with
                    | false =>
                      go_wp2_with fail
                      go_roundw
                      case rel => exact ⟨l + 1, by omega, by go_num, by rw [HTL3.out]; rfl, HLOW.out⟩
                      case measure => simp [intOf]; omega
                    | true =>
                      have hszr : rb + 1 ≤ wr.heap.size := by have := HLOW.out.size; have := HSZ.out; omega
                      have HSZR := Lib.hid hszr
                      clear hszr
                      go_wp2_with fail
                      refine (HSW.out _).mono ?_
                      rintro e w9 ⟨rfl, hb9⟩
                      have HB9 := Lib.hid (HLOW.out.trans (hb9.mono HSZR.out))
                      clear hb9
                      go_wp2_with fail
                      go_roundw
                      case rel => exact ⟨l + 1, by omega, by go_num, by rw [HTL3.out]; rfl, HB9.out⟩
                      case measure => simp [intOf]; omega
                  have hle : l = ol := by omega
                  subst hle
                  clear hAr hxr hrow
                  go_wp2_with fail
                  go_roundw
                  case rel => exact ⟨m + 1, by omega, by go_num, by rw [HTK2.out], HLOW.out⟩
                  case measure => simp [intOf]; omega
            have hme : m = i := by omega
            subst hme
            clear hAr
            generalize (g3 && (S.thrs.take m).all okThr) = g4 at *
            rw [HQ.out] at HEND
            cases g4 with
            | false =>
              have HF : Hid (cr = 9) := Lib.hid HEND.out
              go_wp2_with fail
              go_ret
              exact ⟨by rw [HF.out]; rfl, by rw [HRBE.out]; exact HLR.out⟩
            | true =>
              have HF : Hid (cr = 0) := Lib.hid HEND.out
              go_wp2_with fail
              go_ret
              exact ⟨by rw [HF.out]; rfl, by rw [HRBE.out]; exact HLR.out⟩
end Go.Proofs.YtdmhlhoimaeacaaDoor
