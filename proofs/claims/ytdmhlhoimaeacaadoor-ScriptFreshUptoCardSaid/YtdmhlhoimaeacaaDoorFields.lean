/-
  The program's tell (f38), whole; the program's fields (f43).
-/
import Derived.Test.YtdmhlhoimaeacaaDoorS7
import Derived.Test.YtdmhlhoimaeacaaDoorS1
namespace Go.Proofs.YtdmhlhoimaeacaaDoor
open Go.RowKit Go.Maps
set_option linter.unusedVariables false

theorem tell_walk (N : Nat) (o : Opn) (w : World) (hE : Env N w) (ho : In64O o) : Calls Tryd.prog 38 #[.agg #[.int .i64 o.k, .int .i64 o.a, .int .i64 o.b, .int .i64 o.c]] w (TellD o w) := by
  obtain ⟨k, a, b, c⟩ := o
  by_cases h4 : k = 4
  · subst h4
    by_cases hbad : c < 0 ∨ 3 < c ∨ (c = 0 ∧ b ≠ 0)
    · exact tell_bad N a b c w hE ho hbad
    · by_cases h0 : c = 0
      · have hb : b = 0 := Classical.byContradiction fun e => hbad (.inr (.inr ⟨h0, e⟩))
        subst h0 hb
        exact tell_all N a w hE ho
      · obtain ⟨n, rfl⟩ : ∃ n : Nat, c = n := ⟨c.toNat, by omega⟩
        exact tell_sub N a b n w hE ho (by omega) (by omega)
  · exact tell_forms N k a b c w hE ho h4

/-! Plain. -/
theorem all_get {α : Type} {L : List α} {p : α → Bool} (d : α) (h : ∀ j, j < L.length → p (L.getD j d) = true) : L.all p = true := by
  rw [List.all_eq_true]
  intro x hx
  obtain ⟨j, hj, rfl⟩ := List.getElem_of_mem hx
  have := h j hj
  simpa only [List.getD, List.getElem?_eq_getElem hj, Option.getD_some] using this
theorem all_no {α : Type} {L : List α} {p : α → Bool} (d : α) {i : Nat} (hi : i < L.length) (h : p (L.getD i d) = false) : L.all p = false := by
  rw [← Bool.not_eq_true, List.all_eq_true]
  intro hall
  have := hall (L.getD i d) (by simp only [List.getD, List.getElem?_eq_getElem hi, Option.getD_some]; exact List.getElem_mem hi)
  rw [h] at this
  cases this
def okTop (t : Top) : Bool := decide (0 ≤ t.s) && decide (t.s ≤ 65536)
def okSch (n : Int) : Bool := decide (0 ≤ n) && decide (n ≤ 2147483647)
def okThr (t : Thr) : Bool := nameF t.name && t.ops.all saysF
theorem fieldsF_eq (S : Scr) : fieldsF S = (decide (0 ≤ S.most) && decide (S.most ≤ 1048576) && S.tops.all okTop && S.sch.all okSch && S.thrs.all okThr) := rfl
theorem top_cells {w : World} {g o : Nat} {L : List Top} (h : ∀ j, j < (tcells L).length → w.cell? ⟨g, o + j, none⟩ = (tcells L)[j]?) {i : Nat} (hi : i < L.length) :
    w.cell? ⟨g, o + i * 2, none⟩ = some (.int .i64 (L.getD i default).n) ∧ w.cell? ⟨g, o + i * 2 + 1, none⟩ = some (.int .i64 (L.getD i default).s) := by
  have hl := tcells_length L
  have h0 := h (i * 2 + 0) (by omega)
  have h1 := h (i * 2 + 1) (by omega)
  rw [tcells_get L i 0 hi (by omega)] at h0
  rw [tcells_get L i 1 hi (by omega)] at h1
  rw [← Nat.add_assoc] at h0 h1
  exact ⟨h0, h1⟩
theorem opn_cells {w : World} {g o : Nat} {L : List Opn} (h : ∀ j, j < (ocells L).length → w.cell? ⟨g, o + j, none⟩ = (ocells L)[j]?) {i : Nat} (hi : i < L.length) :
    w.cell? ⟨g, o + i * 4, none⟩ = some (.int .i64 (L.getD i default).k) ∧ w.cell? ⟨g, o + i * 4 + 1, none⟩ = some (.int .i64 (L.getD i default).a) ∧ w.cell? ⟨g, o + i * 4 + 2, none⟩ = some (.int .i64 (L.getD i default).b) ∧ w.cell? ⟨g, o + i * 4 + 3, none⟩ = some (.int .i64 (L.getD i default).c) := by
  have hl := ocells_length L
  have h0 := h (i * 4 + 0) (by omega)
  have h1 := h (i * 4 + 1) (by omega)
  have h2 := h (i * 4 + 2) (by omega)
  have h3 := h (i * 4 + 3) (by omega)
  rw [ocells_get L i 0 hi (by omega)] at h0
  rw [ocells_get L i 1 hi (by omega)] at h1
  rw [ocells_get L i 2 hi (by omega)] at h2
  rw [ocells_get L i 3 hi (by omega)] at h3
  rw [← Nat.add_assoc] at h0 h1 h2 h3
  exact ⟨h0, h1, h2, h3⟩
theorem sch_cell {w : World} {g o : Nat} {L : List Int} (h : ∀ j, j < (ncells L).length → w.cell? ⟨g, o + j, none⟩ = (ncells L)[j]?) {i : Nat} (hi : i < L.length) :
    w.cell? ⟨g, o + i, none⟩ = some (.int .i64 (L.getD i 0)) := by
  have hl : (ncells L).length = L.length := by simp [ncells]
  have h0 := h i (by omega)
  rw [h0]
  simp [ncells, List.getD, List.getElem?_eq_getElem hi]

set_option maxRecDepth 100000 in
set_option maxHeartbeats 8000000 in
theorem fields_walk (N : Nat) (tv hv sv : Value) (V : Nat → Value) (S : Scr) (w : World) (hE : Env N w) (h : ScrAt w tv hv sv V S) (z : SmallS S) (hO : ∀ t ∈ S.thrs, ∀ o ∈ t.ops, In64O o) :
    Calls Tryd.prog 43 #[.agg #[tv, hv, sv, .int .i64 S.most]] w fun e w' => e = .returned (.bool (fieldsF S)) ∧ Below w.heap.size w w' := by
  have hb2 : Below w.heap.size w (w.alloc (.cells #[tv, hv, sv, .int .i64 S.most] 27)) := (Below.refl _ _).alloc (Nat.le_refl _) _
  have HA := Lib.hid (h.below hb2)
  have HE := Lib.hid (hE.up hb2)
  have HB2 := Lib.hid hb2
  have HX := Lib.hid (heap_alloc_new w (.cells #[tv, hv, sv, .int .i64 S.most] 27))
  obtain ⟨pt, ct, rfl, hct, _⟩ := h.tops
  obtain ⟨ph, ch, rfl, hch, _⟩ := h.thrs
  obtain ⟨ps, cs, rfl, hcs, _⟩ := h.sch
  have hzt : S.tops.length ≤ 4000000 := z.tops
  have hzh : S.thrs.length ≤ 4000000 := z.thrs
  have hzs : S.sch.length ≤ 4000000 := z.sch
  have HZ := Lib.hid z
  have HO := Lib.hid hO
  have HSZ : Hid ((w.alloc (.cells #[.slice pt S.tops.length ct, .slice ph S.thrs.length ch, .slice ps S.sch.length cs, .int .i64 S.most] 27)).heap.size = w.heap.size + 1) := Lib.hid (by simp)
  clear h z hb2 hO hE hct hch hcs
  have hq := fieldsF_eq S
  generalize fieldsF S = q at *
  have HQ := Lib.hid hq
  clear hq
  go_enter Tryd.func43, Tryd.ntmps43
  go_upto_region 1 with fail
  generalize w.alloc (.cells #[.slice pt S.tops.length ct, .slice ph S.thrs.length ch, .slice ps S.sch.length cs, .int .i64 S.most] 27) = w0 at *
  generalize hrb : w.heap.size = rb at *
  have HRBE := Lib.hid hrb
  clear hrb
  have HW : Hid (∀ W, Below (rb + 1) w0 W → ScrAt W (.slice pt S.tops.length ct) (.slice ph S.thrs.length ch) (.slice ps S.sch.length cs) V S ∧ Env N W ∧ W.heap[rb]? = some (.cells #[.slice pt S.tops.length ct, .slice ph S.thrs.length ch, .slice ps S.sch.length cs, .int .i64 S.most] 27 (0, 0)) ∧ Below rb w W) := Lib.hid (fun W hW => by
    have h1 : Below w0.heap.size w0 W := by rw [HSZ.out]; exact hW
    exact ⟨HA.out.below h1, HE.out.up h1, (h1.block rb (by have := HSZ.out; omega)).trans HX.out, HB2.out.trans (hW.mono (Nat.le_succ rb))⟩)
  clear HA HE HB2
  obtain ⟨_, _, hx0, hl0⟩ := HW.out w0 (Below.refl _ _)
  have HL0 := Lib.hid hl0
  have HX0 := Lib.hid hx0
  clear hx0 hl0 HX
  have a3 := (cell_of HX0.out 3).trans rfl
  generalize htl : S.tops.length = tl at *
  generalize hhl : S.thrs.length = hl at *
  generalize hsl : S.sch.length = sl at *
  have HTL := Lib.hid htl
  have HHL := Lib.hid hhl
  have HSL := Lib.hid hsl
  clear htl hhl hsl
  generalize hmo : S.most = mo at *
  clear hmo
  rcases (by omega : mo < 0 ∨ (¬ mo < 0 ∧ mo > 1048576) ∨ (¬ mo < 0 ∧ ¬ mo > 1048576)) with hm | ⟨hm, hm'⟩ | ⟨hm, hm'⟩
  · have HF : Hid (q = false) := Lib.hid (by rw [HQ.out, decide_eq_false (by omega)]; rfl)
    go_wp2_with fail
    go_ret
    exact ⟨by rw [HF.out]; rfl, by rw [HRBE.out]; exact HL0.out⟩
  · have HF : Hid (q = false) := Lib.hid (by rw [HQ.out, decide_eq_false (p := mo ≤ 1048576) (by omega)]; simp)
    go_wp2_with fail
    go_ret
    exact ⟨by rw [HF.out]; rfl, by rw [HRBE.out]; exact HL0.out⟩
  have HM : Hid (q = (S.tops.all okTop && S.sch.all okSch && S.thrs.all okThr)) := Lib.hid (by rw [HQ.out, decide_eq_true (show 0 ≤ mo by omega), decide_eq_true (show mo ≤ 1048576 by omega)]; rfl)
  clear HQ
  have a0 := (cell_of HX0.out 0).trans rfl
  go_wp2_with fail
  clear a0 a3 hm hm'
  go_loopw [24] (fun iv wr => ∃ i : Nat, i ≤ tl ∧ iv = .int .i64 i ∧ (∀ j, j < i → okTop (S.tops.getD j default) = true) ∧ Below (rb + 1) w0 wr) (fun iv _ => tl - (intOf iv).toNat)
  case atStart => exact ⟨0, Nat.zero_le _, rfl, fun j hj => by omega, Below.refl _ _⟩
  case round =>
    obtain ⟨i, hi, rfl, hok, hlow⟩ := hrel
    have HOK := Lib.hid hok
    have HLOW := Lib.hid hlow
    have hsz : rb + 1 ≤ wr.heap.size := by have := hlow.size; have := HSZ.out; omega
    have HUP : Hid (∀ o : Obj, Below (rb + 1) w0 (wr.alloc o)) := Lib.hid (fun o => HLOW.out.alloc hsz o)
    obtain ⟨hAr, _, hxr, hlr⟩ := HW.out wr hlow
    clear hok hlow
    by_cases hin : i < tl
    · have hiL : i < S.tops.length := by rw [HTL.out]; exact hin
      obtain ⟨q1, c1, e1, _, hA1⟩ := hAr.tops
      injection e1 with e11 e12 e13
      subst e11
      obtain ⟨ga, oa, rfl, hA2⟩ := hA1.resolve_left (by intro e; have := congrArg List.length e; rw [tcells_length] at this; simp at this; omega)
      obtain ⟨cn, cs'⟩ := top_cells hA2 hiL
      clear hAr hA1 hA2 e12 e13 hxr hlr
      generalize htt : S.tops.getD i default = t at *
      have HTT := Lib.hid htt
      clear htt
      obtain ⟨tn, ts⟩ := t
      simp only at *
      rcases (by omega : ts < 0 ∨ (¬ ts < 0 ∧ ts > 65536) ∨ (¬ ts < 0 ∧ ¬ ts > 65536)) with hm | ⟨hm, hm'⟩ | ⟨hm, hm'⟩
      · have HF : Hid (q = false) := Lib.hid (by rw [HM.out, all_no (i := i) default hiL (by rw [HTT.out]; unfold okTop; rw [decide_eq_false (show ¬ (0 : Int) ≤ ts by omega)]; rfl)]; rfl)
        go_wp2_with fail
        go_ret
        exact ⟨by rw [HF.out]; rfl, by rw [HRBE.out]; exact (HW.out _ (HUP.out _)).2.2.2⟩
      · have HF : Hid (q = false) := Lib.hid (by rw [HM.out, all_no (i := i) default hiL (by rw [HTT.out]; unfold okTop; rw [decide_eq_false (show ¬ ts ≤ (65536 : Int) by omega)]; simp)]; rfl)
        go_wp2_with fail
        go_ret
        exact ⟨by rw [HF.out]; rfl, by rw [HRBE.out]; exact (HW.out _ (HUP.out _)).2.2.2⟩
      · have HOK2 : Hid (okTop (S.tops.getD i default) = true) := Lib.hid (by rw [HTT.out]; unfold okTop; rw [decide_eq_true (show (0 : Int) ≤ ts by omega), decide_eq_true (show ts ≤ (65536 : Int) by omega)]; rfl)
        go_wp2_with fail
        go_roundw
        case rel => exact ⟨i + 1, by omega, by go_num, fun j hj => by rcases Nat.lt_or_ge j i with h | h; exact HOK.out j h; rw [show j = i by omega]; exact HOK2.out, HUP.out _⟩
        case measure => simp [intOf]; omega
    have hie : i = tl := by omega
    subst hie
    have HM2 : Hid (q = (S.sch.all okSch && S.thrs.all okThr)) := Lib.hid (by rw [HM.out, all_get (L := S.tops) (p := okTop) default (fun j hj => HOK.out j (by rw [HTL.out] at hj; exact hj))]; rfl)
    clear HM HOK hAr HL0 HX0
    have a2 := (cell_of hxr 2).trans rfl
    clear hxr hlr hin
    go_wp2_with fail
    clear a2 HUP hsz
    have HLOW1 := HLOW
    clear HLOW
    generalize wr = w1 at *
    go_loopw [40] (fun iv wr => ∃ j : Nat, j ≤ sl ∧ iv = .int .i64 j ∧ (∀ k, k < j → okSch (S.sch.getD k 0) = true) ∧ Below (rb + 1) w0 wr) (fun iv _ => sl - (intOf iv).toNat)
    case atStart => exact ⟨0, Nat.zero_le _, rfl, fun j hj => by omega, HLOW1.out⟩
    case round =>
      obtain ⟨j, hj, rfl, hok, hlow⟩ := hrel
      have HOK := Lib.hid hok
      have HLOW := Lib.hid hlow
      obtain ⟨hAr, _, hxr, hlr⟩ := HW.out wr hlow
      have HLR := Lib.hid hlr
      clear hok hlow hlr
      by_cases hin : j < sl
      · have hiL : j < S.sch.length := by rw [HSL.out]; exact hin
        obtain ⟨q1, c1, e1, _, hA1⟩ := hAr.sch
        injection e1 with e11 e12 e13
        subst e11
        obtain ⟨ga, oa, rfl, hA2⟩ := hA1.resolve_left (by intro e; have := congrArg List.length e; simp [ncells] at this; rw [this] at hiL; simp at hiL)
        have cn := sch_cell hA2 hiL
        clear hAr hA1 hA2 e12 e13 hxr
        generalize htt : S.sch.getD j 0 = ts at *
        have HTT := Lib.hid htt
        clear htt
        rcases (by omega : ts < 0 ∨ (¬ ts < 0 ∧ ts > 2147483647) ∨ (¬ ts < 0 ∧ ¬ ts > 2147483647)) with hm | ⟨hm, hm'⟩ | ⟨hm, hm'⟩
        · have HF : Hid (q = false) := Lib.hid (by rw [HM2.out, all_no (i := j) (0 : Int) hiL (by rw [HTT.out]; unfold okSch; rw [decide_eq_false (show ¬ (0 : Int) ≤ ts by omega)]; rfl)]; rfl)
          go_wp2_with fail
          go_ret
          exact ⟨by rw [HF.out]; rfl, by rw [HRBE.out]; exact HLR.out⟩
        · have HF : Hid (q = false) := Lib.hid (by rw [HM2.out, all_no (i := j) (0 : Int) hiL (by rw [HTT.out]; unfold okSch; rw [decide_eq_false (show ¬ ts ≤ (2147483647 : Int) by omega)]; simp)]; rfl)
          go_wp2_with fail
          go_ret
          exact ⟨by rw [HF.out]; rfl, by rw [HRBE.out]; exact HLR.out⟩
        · have HOK2 : Hid (okSch (S.sch.getD j 0) = true) := Lib.hid (by rw [HTT.out]; unfold okSch; rw [decide_eq_true (show (0 : Int) ≤ ts by omega), decide_eq_true (show ts ≤ (2147483647 : Int) by omega)]; rfl)
          go_wp2_with fail
          go_roundw
          case rel => exact ⟨j + 1, by omega, by go_num, fun k hk => by rcases Nat.lt_or_ge k j with h | h; exact HOK.out k h; rw [show k = j by omega]; exact HOK2.out, HLOW.out⟩
          case measure => simp [intOf]; omega
      have hie : j = sl := by omega
      subst hie
      have HM3 : Hid (q = S.thrs.all okThr) := Lib.hid (by rw [HM2.out, all_get (L := S.sch) (p := okSch) (0 : Int) (fun k hk => HOK.out k (by rw [HSL.out] at hk; exact hk))]; rfl)
      clear HM2 HOK hAr
      have a1 := (cell_of hxr 1).trans rfl
      clear hxr hin HLR
      go_wp2_with fail
      clear a1
      have HLOW2 := HLOW
      clear HLOW HLOW1
      generalize wr = w2 at *
      go_loopw [54] (fun iv wr => ∃ k : Nat, k ≤ hl ∧ iv = .int .i64 k ∧ (∀ l, l < k → okThr (S.thrs.getD l default) = true) ∧ Below (rb + 1) w0 wr) (fun iv _ => hl - (intOf iv).toNat)
      case atStart => exact ⟨0, Nat.zero_le _, rfl, fun j hj => by omega, HLOW2.out⟩
      case round =>
        obtain ⟨k, hk, rfl, hok, hlow⟩ := hrel
        have HOK := Lib.hid hok
        have HLOW := Lib.hid hlow
        have hsz : rb + 1 ≤ wr.heap.size := by have := hlow.size; have := HSZ.out; omega
        obtain ⟨hAr, hEr, hxr, hlr⟩ := HW.out wr hlow
        clear hok hlow
        by_cases hin : k < hl
        · have hiL : k < S.thrs.length := by rw [HHL.out]; exact hin
          obtain ⟨q1, c1, e1, _, hA1⟩ := hAr.thrs
          injection e1 with e11 e12 e13
          subst e11
          obtain ⟨ga, oa, rfl, hA2⟩ := hA1.resolve_left (by intro e; have := congrArg List.length e; rw [hcells_length] at this; simp at this; omega)
          obtain ⟨cn, cv⟩ := hcell_name hA2 hiL
          have hEA := hAr.each k hiL
          have hoz : (S.thrs.getD k default).ops.length ≤ 4000000 := HZ.out.ops _ (getD_mem hiL)
          have hnz : (S.thrs.getD k default).name.length ≤ 4000000 := HZ.out.names _ (getD_mem hiL)
          have hOO := HO.out _ (getD_mem hiL)
          have HEA := Lib.hid hEA
          obtain ⟨pv, cvv, ev, _, _⟩ := hEA
          clear hAr hA1 hA2 e12 e13 hxr hlr
          rw [ev] at cv HEA
          clear ev
          generalize htt : S.thrs.getD k default = t at *
          have HTT := Lib.hid htt
          clear htt
          obtain ⟨tn, ops⟩ := t
          simp only at *
          have HOO := Lib.hid hOO
          clear hOO
          have HWB := Lib.hid ((Below.refl wr.heap.size wr).alloc (Nat.le_refl _) (.cells #[.string ⟨tn.toArray⟩, .slice pv ops.length cvv] 58))
          have HNW := Lib.hid (heap_alloc_new wr (.cells #[.string ⟨tn.toArray⟩, .slice pv ops.length cvv] 58))
          go_upto_region 18 with fail
          have HN : Hid (Calls Tryd.prog 66 #[.string ⟨tn.toArray⟩] (wr.alloc (.cells #[.string ⟨tn.toArray⟩, .slice pv ops.length cvv] 58)) fun e w' => e = .returned (.bool (nameF tn)) ∧ Below (wr.alloc (.cells #[.string ⟨tn.toArray⟩, .slice pv ops.length cvv] 58)).heap.size (wr.alloc (.cells #[.string ⟨tn.toArray⟩, .slice pv ops.length cvv] 58)) w') := Lib.hid (by
            have := isName_walk ⟨tn.toArray⟩ (wr.alloc (.cells #[.string ⟨tn.toArray⟩, .slice pv ops.length cvv] 58)) (by rw [size_mk]; omega)
            simpa using this)
          have HS3 : Hid ((wr.alloc (.cells #[.string ⟨tn.toArray⟩, .slice pv ops.length cvv] 58)).heap.size = wr.heap.size + 1) := Lib.hid (by simp)
          generalize wr.alloc (.cells #[.string ⟨tn.toArray⟩, .slice pv ops.length cvv] 58) = w3 at *
          have HMT : Hid (nameF tn = false ∨ ops.all saysF = false → q = false) := Lib.hid (fun hh => by
            rw [HM3.out]
            refine all_no (i := k) default hiL ?_
            rw [HTT.out]
            unfold okThr
            rcases hh with hh | hh
            · simp only; rw [hh]; rfl
            · simp only; rw [hh]; simp)
          have n0 := (cell_of HNW.out 0).trans rfl
          go_wp2_with fail
          refine HN.out.mono ?_
          rintro e w4 ⟨rfl, hb4⟩
          have n1 := (cell_of ((hb4.block wr.heap.size (by have := HS3.out; omega)).trans HNW.out) 1).trans rfl
          have HW4 : Hid (Below wr.heap.size wr w4) := Lib.hid (HWB.out.trans (hb4.mono (by have := HS3.out; omega)))
          clear n0 hb4
          cases hnm : nameF tn with
          | false =>
            have HF : Hid (q = false) := Lib.hid (HMT.out (.inl hnm))
            go_wp2_with fail
            go_ret
            exact ⟨by rw [HF.out]; rfl, by rw [HRBE.out]; exact (HW.out _ (HLOW.out.trans (HW4.out.mono hsz))).2.2.2⟩
          | true =>
            have HNM := Lib.hid hnm
            clear hnm
            generalize hol : ops.length = ol at *
            have HOL := Lib.hid hol
            clear hol
            go_wp2_with fail
            clear n1
            clear HNW HN
            generalize wr = wx at *
            go_loopw [65] (fun iv wq => ∃ l : Nat, l ≤ ol ∧ iv = .int .i64 l ∧ (∀ m, m < l → saysF (ops.getD m default) = true) ∧ Below wx.heap.size wx wq) (fun iv _ => ol - (intOf iv).toNat)
            case atStart => exact ⟨0, Nat.zero_le _, rfl, fun j hj => by omega, HW4.out⟩
            case round =>
              obtain ⟨l, hlo, rfl, hoka, hlow⟩ := hrel
              have HOKA := Lib.hid hoka
              have HLOWA := Lib.hid hlow
              have hsr : wx.heap.size ≤ wr.heap.size := hlow.size
              have hLr : Below (rb + 1) w0 wr := HLOW.out.trans (hlow.mono hsz)
              have hRow := HEA.out.below hlow
              have HEr := Lib.hid (HW.out wr hLr).2.1
              clear hoka hlow hLr
              by_cases hil : l < ol
              · have hiO : l < ops.length := by rw [HOL.out]; exact hil
                obtain ⟨q2, c2, e2, _, hB1⟩ := hRow
                injection e2 with e21 e22 e23
                subst e21
                obtain ⟨gb, ob, rfl, hB2⟩ := hB1.resolve_left (by intro e; have := congrArg List.length e; rw [ocells_length] at this; simp at this; omega)
                obtain ⟨d0, d1, d2, d3⟩ := opn_cells hB2 hiO
                clear hB1 hB2 e22 e23
                have HIO : Hid (In64O (ops.getD l default)) := Lib.hid (HOO.out _ (by simp only [List.getD, List.getElem?_eq_getElem hiO, Option.getD_some]; exact List.getElem_mem hiO))
                generalize hoo : ops.getD l default = o at *
                have HOT := Lib.hid hoo
                clear hoo
                obtain ⟨ok, oa', ob', oc⟩ := o
                simp only at *
                have HT := Lib.hid (fun W hW => tell_walk N ⟨ok, oa', ob', oc⟩ W (HEr.out.up hW) HIO.out)
                simp only at HT
                have HNEW : Hid (Below wr.heap.size wr (wr.alloc (.cells #[.int .i64 ok, .int .i64 oa', .int .i64 ob', .int .i64 oc] 65))) := Lib.hid ((Below.refl _ _).alloc (Nat.le_refl _) _)
                have HSN : Hid ((wr.alloc (.cells #[.int .i64 ok, .int .i64 oa', .int .i64 ob', .int .i64 oc] 65)).heap.size = wr.heap.size + 1) := Lib.hid (by simp)
                go_wp2_with fail
                refine (HT.out _ HNEW.out).mono ?_
                rintro e w6 ⟨rfl, hb6⟩
                have HB6 : Hid (Below wx.heap.size wx w6) := Lib.hid (HLOWA.out.trans ((HNEW.out.trans (hb6.mono (by have := HSN.out; omega))).mono hsr))
                clear hb6
                cases hsy : saysF ⟨ok, oa', ob', oc⟩ with
                | false =>
                  have HF : Hid (q = false) := Lib.hid (HMT.out (.inr (all_no (i := l) default hiO (by rw [HOT.out]; exact hsy))))
                  go_wp2_with fail
                  go_ret
                  exact ⟨by rw [HF.out]; rfl, by rw [HRBE.out]; exact (HW.out _ (HLOW.out.trans (HB6.out.mono hsz))).2.2.2⟩
                | true =>
                  have HSY := Lib.hid hsy
                  clear hsy
                  go_wp2_with fail
                  go_roundw
                  case rel => exact ⟨l + 1, by omega, by go_num, fun m hm => by rcases Nat.lt_or_ge m l with h | h; exact HOKA.out m h; rw [show m = l by omega, HOT.out]; exact HSY.out, HB6.out⟩
                  case measure => simp [intOf]; omega
              have hie : l = ol := by omega
              subst hie
              have HOK2 : Hid (okThr (S.thrs.getD k default) = true) := Lib.hid (by
                rw [HTT.out]
                unfold okThr
                simp only
                rw [HNM.out, all_get (L := ops) (p := saysF) default (fun m hm => HOKA.out m (by rw [HOL.out] at hm; exact hm))]
                rfl)
              clear hRow
              go_wp2_with fail
              go_roundw
              case rel => exact ⟨k + 1, by omega, by go_num, fun m hm => by rcases Nat.lt_or_ge m k with h | h; exact HOK.out m h; rw [show m = k by omega]; exact HOK2.out, HLOW.out.trans (HLOWA.out.mono hsz)⟩
              case measure => simp [intOf]; omega
        have hie : k = hl := by omega
        subst hie
        have HT : Hid (q = true) := Lib.hid (by rw [HM3.out, all_get (L := S.thrs) (p := okThr) default (fun m hm => HOK.out m (by rw [HHL.out] at hm; exact hm))])
        have HLR := Lib.hid hlr
        clear hAr hxr hlr
        go_wp2_with fail
        go_ret
        exact ⟨by rw [HT.out]; rfl, by rw [HRBE.out]; exact HLR.out⟩
end Go.Proofs.YtdmhlhoimaeacaaDoor
