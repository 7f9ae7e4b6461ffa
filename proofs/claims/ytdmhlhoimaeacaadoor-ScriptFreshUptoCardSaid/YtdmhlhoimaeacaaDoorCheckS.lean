/-
  The program's Check (f19).
-/
import Derived.Test.YtdmhlhoimaeacaaDoorFields
import Derived.Test.YtdmhlhoimaeacaaDoorOwnS
import Derived.Test.YtdmhlhoimaeacaaDoorS1
namespace Go.Proofs.YtdmhlhoimaeacaaDoor
open Go.RowKit Go.Maps
set_option linter.unusedVariables false

/-! Plain. -/
/-- The first i names, as a script. -/
def nmS (S : Scr) (i : Nat) : Scr := { Scr.empty with thrs := (S.thrs.take i).map fun t => ⟨t.name, []⟩ }
theorem nmS_succ (S : Scr) {i : Nat} (h : i < S.thrs.length) : nmS S (i + 1) = { nmS S i with thrs := (nmS S i).thrs ++ [⟨(S.thrs.getD i default).name, []⟩] } := by
  unfold nmS
  simp only [take_snoc h default, List.map_append, List.map_cons, List.map_nil]
theorem nmS_names (S : Scr) (i : Nat) : (nmS S i).thrs.map Thr.name = (S.thrs.map Thr.name).take i := by
  simp only [nmS, List.map_map, List.map_take]
  rfl
theorem names_take (S : Scr) {i : Nat} (h : i < S.thrs.length) : (S.thrs.map Thr.name).take (i + 1) = (S.thrs.map Thr.name).take i ++ [(S.thrs.getD i default).name] := by
  rw [← List.map_take, take_snoc h default, List.map_append, List.map_take]
  rfl
theorem names_zero (S : Scr) : namesF (nmS S 0) = fun _ => none := names_empty
theorem dup_names (S : Scr) {i : Nat} (h : i < S.thrs.length) (hm : (S.thrs.getD i default).name ∈ (S.thrs.map Thr.name).take i) : ¬ (S.thrs.map Thr.name).Nodup := by
  intro hn
  have := (List.take_sublist (i + 1) (S.thrs.map Thr.name)).nodup hn
  rw [names_take S h, List.nodup_append] at this
  exact this.2.2 _ hm _ (by simp) rfl
theorem more_names (S : Scr) {i : Nat} (h : i < S.thrs.length) (hn : ((S.thrs.map Thr.name).take i).Nodup) (hm : (S.thrs.getD i default).name ∉ (S.thrs.map Thr.name).take i) : ((S.thrs.map Thr.name).take (i + 1)).Nodup := by
  rw [names_take S h, List.nodup_append]
  refine ⟨hn, by simp, fun a ha b hb e => ?_⟩
  simp only [List.mem_singleton] at hb
  subst hb
  subst e
  exact hm ha
theorem any_yes {α : Type} {L : List α} {p : α → Bool} (d : α) {i : Nat} (hi : i < L.length) (h : p (L.getD i d) = true) : L.any p = true := by
  rw [List.any_eq_true]
  exact ⟨L.getD i d, by simp only [List.getD, List.getElem?_eq_getElem hi, Option.getD_some]; exact List.getElem_mem hi, h⟩
theorem any_none {α : Type} {L : List α} {p : α → Bool} (d : α) (h : ∀ j, j < L.length → p (L.getD j d) = false) : L.any p = false := by
  rw [List.any_eq_false]
  intro x hx
  obtain ⟨j, hj, rfl⟩ := List.getElem_of_mem hx
  have := h j hj
  simpa only [List.getD, List.getElem?_eq_getElem hj, Option.getD_some, Bool.not_eq_true] using this

/-- A result's number. -/
def CheckD (S : Scr) (w : World) (e : Ending) (w' : World) : Prop := e = .returned (.int .i64 (checkF S)) ∧ Below w.heap.size w w'
theorem check_big {S : Scr} (h : 64 < S.thrs.length ∨ 65536 < S.tops.length ∨ 1048576 < S.sch.length) : checkF S = 3 := by unfold checkF; rw [if_pos h]
theorem check_ops {S : Scr} (h : S.thrs.any (fun t => decide (65536 < t.ops.length)) = true) : checkF S = 3 := by
  unfold checkF
  rw [h]
  simp
theorem check_dup {S : Scr} (h : ¬ (64 < S.thrs.length ∨ 65536 < S.tops.length ∨ 1048576 < S.sch.length)) (h2 : S.thrs.any (fun t => decide (65536 < t.ops.length)) = false) (h3 : ¬ (S.thrs.map Thr.name).Nodup) : checkF S = 7 := by
  unfold checkF
  rw [if_neg h, h2, if_neg (by simp), if_pos h3]
theorem check_end {S : Scr} (h : ¬ (64 < S.thrs.length ∨ 65536 < S.tops.length ∨ 1048576 < S.sch.length)) (h2 : S.thrs.any (fun t => decide (65536 < t.ops.length)) = false) (h3 : (S.thrs.map Thr.name).Nodup) : checkF S = if fieldsF S then 0 else 9 := by
  unfold checkF
  rw [if_neg h, h2, if_neg (by simp), if_neg (fun h => h h3)]

set_option maxRecDepth 100000 in
set_option maxHeartbeats 8000000 in
theorem check_walkS (N : Nat) (tv hv sv : Value) (V : Nat → Value) (S : Scr) (w : World) (hE : Env N w) (h : ScrAt w tv hv sv V S) (z : SmallS S) (hO : ∀ t ∈ S.thrs, ∀ o ∈ t.ops, In64O o) :
    Calls Tryd.prog 19 #[.agg #[tv, hv, sv, .int .i64 S.most]] w (CheckD S w) := by
  have hb2 : Below w.heap.size w (w.alloc (.cells #[tv, hv, sv, .int .i64 S.most] 27)) := (Below.refl _ _).alloc (Nat.le_refl _) _
  have HA := Lib.hid (h.below hb2)
  have HE := Lib.hid (hE.up hb2)
  have HB2 := Lib.hid hb2
  have HX := Lib.hid (heap_alloc_new w (.cells #[tv, hv, sv, .int .i64 S.most] 27))
  obtain ⟨pt, ct, rfl, hct, _⟩ := h.tops
  obtain ⟨ph, ch, rfl, hch, _⟩ := h.thrs
  obtain ⟨ps, cs, rfl, hcs, _⟩ := h.sch
  have hzt : S.tops.length ≤ 4000000 := z.tops
  have hzh : S.thrs.length ≤ 4000000 := z.thrs
  have hzs : S.sch.length ≤ 4000000 := z.sch
  have HZ := Lib.hid z
  have HSZ : Hid ((w.alloc (.cells #[.slice pt S.tops.length ct, .slice ph S.thrs.length ch, .slice ps S.sch.length cs, .int .i64 S.most] 27)).heap.size = w.heap.size + 1) := Lib.hid (by simp)
  have HFW := Lib.hid (fun W hW hR => fields_walk N (.slice pt S.tops.length ct) (.slice ph S.thrs.length ch) (.slice ps S.sch.length cs) V S W hW hR z hO)
  have HC1 := Lib.hid (fun h => check_big (S := S) h)
  have HC2 := Lib.hid (fun h => check_ops (S := S) h)
  have HC3 := Lib.hid (fun h h2 h3 => check_dup (S := S) h h2 h3)
  have HC4 := Lib.hid (fun h h2 h3 => check_end (S := S) h h2 h3)
  unfold CheckD
  generalize checkF S = cr at *
  generalize fieldsF S = fr at *
  clear h z hb2 hO hE hct hch hcs
  have hmk : ∀ W : World, (Instr.makeMap 71 none).run Tryd.prog W = .ok (.map (some W.heap.size)) (W.alloc (.map #[] 0)) := fun W => rfl
  have HMK := Lib.hid hmk
  clear hmk
  go_enter Tryd.func19, Tryd.ntmps19
  go_upto_region 1 with fail
  generalize w.alloc (.cells #[.slice pt S.tops.length ct, .slice ph S.thrs.length ch, .slice ps S.sch.length cs, .int .i64 S.most] 27) = w0 at *
  generalize hrb : w.heap.size = rb at *
  have HRBE := Lib.hid hrb
  clear hrb
  have HW : Hid (∀ W, Below (rb + 1) w0 W → ScrAt W (.slice pt S.tops.length ct) (.slice ph S.thrs.length ch) (.slice ps S.sch.length cs) V S ∧ Env N W ∧ W.heap[rb]? = some (.cells #[.slice pt S.tops.length ct, .slice ph S.thrs.length ch, .slice ps S.sch.length cs, .int .i64 S.most] 27 (0, 0)) ∧ Below rb w W) := Lib.hid (fun W hW => by
    have h1 : Below w0.heap.size w0 W := by rw [HSZ.out]; exact hW
    exact ⟨HA.out.below h1, HE.out.up h1, (h1.block rb (by have := HSZ.out; omega)).trans HX.out, HB2.out.trans (hW.mono (Nat.le_succ rb))⟩)
  clear HA HE HB2
  obtain ⟨_, _, hx0, hl0⟩ := HW.out w0 (Below.refl _ _)
  have HL0 := Lib.hid hl0
  have HX0 := Lib.hid hx0
  clear hx0 hl0 HX
  have a0 := (cell_of HX0.out 0).trans rfl
  have a1 := (cell_of HX0.out 1).trans rfl
  have a2 := (cell_of HX0.out 2).trans rfl
  generalize htl : S.tops.length = tl at *
  generalize hhl : S.thrs.length = hl at *
  generalize hsl : S.sch.length = sl at *
  have HHL := Lib.hid hhl
  clear htl hhl hsl
  rcases (by omega : 64 < hl ∨ (¬ 64 < hl ∧ 65536 < tl) ∨ (¬ 64 < hl ∧ ¬ 65536 < tl ∧ 1048576 < sl) ∨ (¬ 64 < hl ∧ ¬ 65536 < tl ∧ ¬ 1048576 < sl)) with h1 | ⟨h1, h2⟩ | ⟨h1, h2, h3⟩ | ⟨h1, h2, h3⟩
  · have HF : Hid (cr = 3) := Lib.hid (HC1.out (.inl h1))
    have g1 : (hl : Int) > 64 := by omega
    go_wp2_with fail
    go_ret
    exact ⟨by rw [HF.out]; rfl, by rw [HRBE.out]; exact HL0.out⟩
  · have HF : Hid (cr = 3) := Lib.hid (HC1.out (.inr (.inl h2)))
    have g1 : ¬ (hl : Int) > 64 := by omega
    have g2 : (tl : Int) > 65536 := by omega
    go_wp2_with fail
    go_ret
    exact ⟨by rw [HF.out]; rfl, by rw [HRBE.out]; exact HL0.out⟩
  · have HF : Hid (cr = 3) := Lib.hid (HC1.out (.inr (.inr h3)))
    have g1 : ¬ (hl : Int) > 64 := by omega
    have g2 : ¬ (tl : Int) > 65536 := by omega
    have g3 : (sl : Int) > 1048576 := by omega
    go_wp2_with fail
    go_ret
    exact ⟨by rw [HF.out]; rfl, by rw [HRBE.out]; exact HL0.out⟩
  have HNB : Hid (¬ (64 < hl ∨ 65536 < tl ∨ 1048576 < sl)) := Lib.hid (by omega)
  have h64 : hl ≤ 64 := by omega
  have g1 : ¬ (hl : Int) > 64 := by omega
  have g2 : ¬ (tl : Int) > 65536 := by omega
  have g3 : ¬ (sl : Int) > 1048576 := by omega
  clear h1 h2 h3
  go_wp2_with fail
  clear a0 a1 a2 g1 g2 g3
  go_loopw [27] (fun iv wr => ∃ i : Nat, i ≤ hl ∧ iv = .int .i64 i ∧ (∀ j, j < i → (S.thrs.getD j default).ops.length ≤ 65536) ∧ Below (rb + 1) w0 wr) (fun iv _ => hl - (intOf iv).toNat)
  case atStart => exact ⟨0, Nat.zero_le _, rfl, fun j hj => by omega, Below.refl _ _⟩
  case round =>
    obtain ⟨i, hi, rfl, hok, hlow⟩ := hrel
    have HOK := Lib.hid hok
    have HLOW := Lib.hid hlow
    have hsz : rb + 1 ≤ wr.heap.size := by have := hlow.size; have := HSZ.out; omega
    have HUP : Hid (∀ o : Obj, Below (rb + 1) w0 (wr.alloc o)) := Lib.hid (fun o => HLOW.out.alloc hsz o)
    obtain ⟨hAr, _, hxr, hlr⟩ := HW.out wr hlow
    clear hok hlow
    by_cases hin : i < hl
    · have hiL : i < S.thrs.length := by rw [HHL.out]; exact hin
      obtain ⟨q1, c1, e1, _, hA1⟩ := hAr.thrs
      injection e1 with e11 e12 e13
      subst e11
      obtain ⟨ga, oa, rfl, hA2⟩ := hA1.resolve_left (by intro e; have := congrArg List.length e; rw [hcells_length] at this; simp at this; omega)
      obtain ⟨cn, cv⟩ := hcell_name hA2 hiL
      have hEA := hAr.each i hiL
      have hoz : (S.thrs.getD i default).ops.length ≤ 4000000 := HZ.out.ops _ (getD_mem hiL)
      obtain ⟨pv, cvv, ev, _, _⟩ := hEA
      clear hAr hA1 hA2 e12 e13 hxr hlr
      rw [ev] at cv
      clear ev
      generalize htt : S.thrs.getD i default = t at *
      have HTT := Lib.hid htt
      clear htt
      obtain ⟨tn, ops⟩ := t
      simp only at *
      by_cases hbg : 65536 < ops.length
      · have HF : Hid (cr = 3) := Lib.hid (HC2.out (any_yes (i := i) default hiL (by rw [HTT.out]; exact decide_eq_true hbg)))
        have g1 : (ops.length : Int) > 65536 := by omega
        go_wp2_with fail
        go_ret
        exact ⟨by rw [HF.out]; rfl, by rw [HRBE.out]; exact (HW.out _ (HUP.out _)).2.2.2⟩
      · have HOK2 : Hid ((S.thrs.getD i default).ops.length ≤ 65536) := Lib.hid (by rw [HTT.out]; simp only; omega)
        have g1 : ¬ (ops.length : Int) > 65536 := by omega
        go_wp2_with fail
        go_roundw
        case rel => exact ⟨i + 1, by omega, by go_num, fun j hj => by rcases Nat.lt_or_ge j i with h | h; exact HOK.out j h; rw [show j = i by omega]; exact HOK2.out, HUP.out _⟩
        case measure => simp [intOf]; omega
    have hie : i = hl := by omega
    subst hie
    have HNA : Hid (S.thrs.any (fun t => decide (65536 < t.ops.length)) = false) := Lib.hid (any_none default (fun j hj => decide_eq_false (by have := HOK.out j (by rw [HHL.out] at hj; exact hj); omega)))
    have HNEW := Lib.hid (mapF_new wr)
    have hxm := (HW.out _ (HUP.out (.map #[] 0))).2.2.1
    have a1 := (cell_of hxm 1).trans rfl
    have hmk := HMK.out
    clear HOK hAr hxr hlr hin hxm HC2
    go_wp2_with fail
    have HB0 : Hid (Below (rb + 1) w0 (wr.alloc (.map #[] 0))) := Lib.hid (HUP.out _)
    have HNEW2 : Hid (MapF (wr.alloc (.map #[] 0)) wr.heap.size 0 (namesF (nmS S 0))) := Lib.hid (by rw [names_zero]; exact HNEW.out)
    generalize wr.alloc (.map #[] 0) = w1 at *
    generalize wr.heap.size = mm at *
    clear a1 hmk HNEW HUP HLOW
    go_loopw [40] (fun iv wr => ∃ j : Nat, j ≤ i ∧ iv = .int .i64 j ∧ ((S.thrs.map Thr.name).take j).Nodup ∧ MapF wr mm j (namesF (nmS S j)) ∧ Below (rb + 1) w0 wr) (fun iv _ => i - (intOf iv).toNat)
    case atStart => exact ⟨0, Nat.zero_le _, rfl, by simp, HNEW2.out, HB0.out⟩
    case round =>
      obtain ⟨j, hj, rfl, hnd, hmp, hlow⟩ := hrel
      have HND := Lib.hid hnd
      have HMP := Lib.hid hmp
      have HLOW := Lib.hid hlow
      have hszr : rb + 1 ≤ wr.heap.size := by have := hlow.size; have := HSZ.out; omega
      have HUP : Hid (∀ o : Obj, Below (rb + 1) w0 (wr.alloc o)) := Lib.hid (fun o => HLOW.out.alloc hszr o)
      obtain ⟨hAr, hEr, hxr, hlr⟩ := HW.out wr hlow
      clear hnd hmp hlow
      by_cases hin : j < i
      · have hiL : j < S.thrs.length := by rw [HHL.out]; exact hin
        obtain ⟨q1, c1, e1, _, hA1⟩ := hAr.thrs
        injection e1 with e11 e12 e13
        subst e11
        obtain ⟨ga, oa, rfl, hA2⟩ := hA1.resolve_left (by intro e; have := congrArg List.length e; rw [hcells_length] at this; simp at this; omega)
        obtain ⟨cn, cv⟩ := hcell_name hA2 hiL
        have hEA := hAr.each j hiL
        have hnz : (S.thrs.getD j default).name.length ≤ 4000000 := HZ.out.names _ (getD_mem hiL)
        obtain ⟨pv, cvv, ev, _, _⟩ := hEA
        clear hAr hEr hA1 hA2 e12 e13 hxr hlr
        rw [ev] at cv
        clear ev
        have HSUC := Lib.hid (nmS_succ S hiL)
        have HDUP := Lib.hid (dup_names S hiL)
        have HMORE := Lib.hid (more_names S hiL HND.out)
        have HNMS := Lib.hid (nmS_names S j)
        generalize S.thrs.getD j default = t at *
        obtain ⟨tn, ops⟩ := t
        simp only at *
        have hal : tn.length ≤ maxLen := by unfold maxLen; omega
        by_cases hdup : tn ∈ (S.thrs.map Thr.name).take j
        · have HF : Hid (cr = 7) := Lib.hid (HC3.out HNB.out HNA.out (HDUP.out hdup))
          have hlk := (HMP.out.alloc (.cells #[.string ⟨tn.toArray⟩, .slice pv ops.length cvv] 58)).look_run tn hal true (by
            have : tn ∈ (nmS S j).thrs.map Thr.name := by rw [HNMS.out]; exact hdup
            unfold namesF
            simp only
            rw [if_pos this]
            rfl)
          clear hdup hal
          go_wp2_with fail
          go_ret
          exact ⟨by rw [HF.out]; rfl, by rw [HRBE.out]; exact (HW.out _ (HUP.out _)).2.2.2⟩
        · have hlk := (HMP.out.alloc (.cells #[.string ⟨tn.toArray⟩, .slice pv ops.length cvv] 58)).look_run tn hal false (by
            have : ¬ tn ∈ (nmS S j).thrs.map Thr.name := by rw [HNMS.out]; exact hdup
            unfold namesF
            simp only
            rw [if_neg this]
            rfl)
          obtain ⟨w3, hput, hM3, hg3⟩ := (HMP.out.alloc (.cells #[.string ⟨tn.toArray⟩, .slice pv ops.length cvv] 58)).put_run (by unfold maxLen; omega) tn hal
          have HND2 := Lib.hid (HMORE.out hdup)
          have HM3 := Lib.hid hM3
          have HL3 : Hid (Below (rb + 1) w0 w3) := Lib.hid ((HUP.out _).grown hg3 (by have := (HUP.out (.cells #[.string ⟨tn.toArray⟩, .slice pv ops.length cvv] 58)).size; have := HSZ.out; omega) (fun q hq => by cases hq; exact hsz))
          clear hM3 hg3 hdup hal
          go_wp2_with fail
          go_roundw
          case rel => exact ⟨j + 1, by omega, by go_num, HND2.out, by rw [HSUC.out]; exact HM3.out, HL3.out⟩
          case measure => simp [intOf]; omega
      have hie : j = i := by omega
      subst hie
      have HALL : Hid ((S.thrs.map Thr.name).Nodup) := Lib.hid (by have h := HND.out; rw [← HHL.out, ← List.length_map (f := Thr.name), List.take_length] at h; exact h)
      have HEND := Lib.hid (HC4.out HNB.out HNA.out HALL.out)
      have HFC := Lib.hid (HFW.out wr hEr hAr)
      have a0 := (cell_of hxr 0).trans rfl
      have a1 := (cell_of hxr 1).trans rfl
      have a2 := (cell_of hxr 2).trans rfl
      have a3 := (cell_of hxr 3).trans rfl
      clear hAr hEr hxr hlr HMP HC3 HC4 HC1
      go_wp2_with fail
      refine HFC.out.mono ?_
      rintro e w5 ⟨rfl, hb5⟩
      have HL5 : Hid (Below rb w w5) := Lib.hid ((HW.out wr HLOW.out).2.2.2.trans (hb5.mono (by omega)))
      clear hb5
      cases fr with
      | false =>
        have HF : Hid (cr = 9) := Lib.hid HEND.out
        go_wp2_with fail
        go_ret
        exact ⟨by rw [HF.out]; rfl, by rw [HRBE.out]; exact HL5.out⟩
      | true =>
        have HF : Hid (cr = 0) := Lib.hid HEND.out
        go_wp2_with fail
        go_ret
        exact ⟨by rw [HF.out]; rfl, by rw [HRBE.out]; exact HL5.out⟩
end Go.Proofs.YtdmhlhoimaeacaaDoor
