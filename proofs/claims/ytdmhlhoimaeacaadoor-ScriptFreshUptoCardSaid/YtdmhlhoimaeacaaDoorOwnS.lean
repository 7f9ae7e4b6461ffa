/-
  A script as the document's: the law's own (f14).
-/
import Derived.Test.YtdmhlhoimaeacaaDoorStart
import Derived.Test.YtdmhlhoimaeacaaDoorThreads
import Derived.Test.YtdmhlhoimaeacaaDoorS5
namespace Go.Proofs.YtdmhlhoimaeacaaDoor
open Go.RowKit
set_option linter.unusedVariables false

/-- A head of four cells, and a row of its own that grows at cell i. -/
theorem head_more {wr : World} {B N g T e k n i : Nat} {w0 : World} {hd : Array Value} {v : Value} {xs news : List Value} {o1 o2 : Obj} {v' : Value} {w4 : World} (hh : wr.heap[g]? = some (.cells hd T (0, 0))) (hi : hd[i]? = some v) (hrow : wr.ownsRow N e k v n xs) (he : e ≠ T)
    (hb : Below B w0 wr) (hB : B ≤ g) (hBN : B ≤ N) (hBw : B ≤ wr.heap.size) (hsz : w0.heap.size ≤ wr.heap.size) (ha : Appended ((wr.alloc o1).alloc o2) N e k v n 1 (xs ++ news) v' w4) :
    w4.cell? ⟨g, i, none⟩ = some v ∧ w4.frozen? ⟨g, i, none⟩ = false ∧ (w4.setCell ⟨g, i, none⟩ v').heap[g]? = some (.cells (hd.setIfInBounds i v') T (0, 0)) ∧ (w4.setCell ⟨g, i, none⟩ v').ownsRow N e k v' (n + 1) (xs ++ news) ∧ Below B w0 (w4.setCell ⟨g, i, none⟩ v') ∧
      (∀ (q : Nat) (cs : Array Value) (T' : Nat), q ≠ g → T' ≠ e → wr.heap[q]? = some (Obj.cells cs T' (0, 0)) → (w4.setCell ⟨g, i, none⟩ v').heap[q]? = some (Obj.cells cs T' (0, 0))) ∧ wr.heap.size ≤ (w4.setCell ⟨g, i, none⟩ v').heap.size := by
  have hg := ha.2.1
  have hrow2 := (hrow.alloc o1).alloc o2
  have hkeep : ∀ (q : Nat) (cs : Array Value) (T' : Nat), T' ≠ e → wr.heap[q]? = some (Obj.cells cs T' (0, 0)) → w4.heap[q]? = some (Obj.cells cs T' (0, 0)) := fun q cs T' hT hq => by
    have hlt := (Array.getElem?_eq_some_iff.1 hq).1
    have h2 : ((wr.alloc o1).alloc o2).heap[q]? = some (.cells cs T' (0, 0)) := (Below.heap_alloc _ _ _ (by simp; omega)).trans ((Below.heap_alloc _ _ _ hlt).trans hq)
    exact head_other hrow2 h2 hg hT.symm
  have hh4 := hkeep g hd T he.symm hh
  have hs := hg.size
  simp at hs
  refine ⟨(cell_of hh4 i).trans hi, free_of hh4 i, set_at hh4 i v', ?_, ?_, fun q cs T' hq hT hqq => set_keep (hkeep q cs T' hT hqq) hq, by simp [World.setCell]; omega⟩
  · exact own_head ha.1 hh4 (grown_set _ _ _ _) he
  · exact ((((hb.alloc hBw o1).alloc (by simp; omega) o2).grown hg (by simp; omega) (fun q hq => Nat.le_trans hBN (hrow2.lt q hq).1))).setCell hB _
/-- A script as the document's. -/
def OwnD (sv : Value) (V : Nat → Value) (S : Scr) (w : World) (e : Ending) (w' : World) : Prop :=
  ∃ tv hv, e = .returned (.agg #[tv, hv, sv, .int .i64 S.most]) ∧ ScrAt w' tv hv sv V S ∧ Below w.heap.size w w'
theorem hcells_take {L : List Thr} {V : Nat → Value} {i : Nat} (h : i < L.length) : hcells (L.take (i + 1)) V = hcells (L.take i) V ++ hcell (L.getD i default) (V i) := by
  have hl : (L.take i).length = i := by simp; omega
  rw [take_snoc h default]
  have := hcells_snoc (L.take i) V (L.getD i default) (V i)
  rw [hl] at this
  rw [← this]
  unfold hcells
  refine flatN_congr _ fun j hj => ?_
  by_cases e : j = i
  · subst e; simp
  · simp [e]

theorem results_cell_one {fn : Func} {p : Tmp} {ty : TypeId} (h : fn.results = #[.cell p ty]) (tmps : Array Value) (P : Program) (w : World) (z : Value) (x : Addr) (hp : tmps.getD p undef = .pointer (some x)) (hl : (loadVar ty x).run P w = .ok z w) :
    (results fn tmps).run P w = .ok z w := by
  have hp' : tmps[p]?.getD undef = .pointer (some x) := by simpa using hp
  simp [results, h, hp', asAddr, hl]
set_option maxRecDepth 100000 in
set_option maxHeartbeats 8000000 in
theorem own_walk (tv hv sv : Value) (V : Nat → Value) (S : Scr) (w : World) (h : ScrAt w tv hv sv V S) (z : SmallS S) :
    Calls Tryd.prog 14 #[.agg #[tv, hv, sv, .int .i64 S.most]] w (OwnD sv V S w) := by
  have HA := Lib.hid h
  obtain ⟨pt, ct, rfl, _, _⟩ := h.tops
  obtain ⟨ph, ch, rfl, _, _⟩ := h.thrs
  obtain ⟨ps, cs, rfl, _, _⟩ := h.sch
  have hzt : S.tops.length ≤ 4000000 := z.tops
  have hzh : S.thrs.length ≤ 4000000 := z.thrs
  obtain ⟨W3, hW3⟩ : ∃ W3, W3 = ((w.alloc (.cells #[.slice pt S.tops.length ct, .slice ph S.thrs.length ch, .slice ps S.sch.length cs, .int .i64 S.most] 27)).alloc (.cells #[.slice none 0 0, .slice none 0 0, .slice none 0 0, .int .i64 0] 34)).alloc (.cells #[.slice none 0 0, .slice none 0 0, .slice ps S.sch.length cs, .int .i64 S.most] 34) := ⟨_, rfl⟩
  have hs1 : (w.alloc (.cells #[.slice pt S.tops.length ct, .slice ph S.thrs.length ch, .slice ps S.sch.length cs, .int .i64 S.most] 27)).heap.size = w.heap.size + 1 := by simp
  have hs2 : ((w.alloc (.cells #[.slice pt S.tops.length ct, .slice ph S.thrs.length ch, .slice ps S.sch.length cs, .int .i64 S.most] 27)).alloc (.cells #[.slice none 0 0, .slice none 0 0, .slice none 0 0, .int .i64 0] 34)).heap.size = w.heap.size + 2 := by simp
  have HSZ : Hid (W3.heap.size = w.heap.size + 3) := Lib.hid (by rw [hW3]; simp)
  have HB3 : Hid (Below w.heap.size w W3) := Lib.hid (by rw [hW3]; exact (((Below.refl _ _).alloc (Nat.le_refl _) _).alloc (by simp) _).alloc (by simp; omega) _)
  have HX : Hid (W3.heap[w.heap.size]? = some (.cells #[.slice pt S.tops.length ct, .slice ph S.thrs.length ch, .slice ps S.sch.length cs, .int .i64 S.most] 27 (0, 0))) := Lib.hid (by rw [hW3]; exact (Below.heap_alloc _ _ _ (by omega)).trans ((Below.heap_alloc _ _ _ (by omega)).trans (heap_alloc_new w _)))
  have HR : Hid (W3.heap[w.heap.size + 1]? = some (.cells #[.slice none 0 0, .slice none 0 0, .slice none 0 0, .int .i64 0] 34 (0, 0))) := Lib.hid (by rw [hW3]; exact (Below.heap_alloc _ _ _ (by omega)).trans (by rw [← hs1]; exact heap_alloc_new _ _))
  have HO : Hid (W3.heap[w.heap.size + 2]? = some (.cells #[.slice none 0 0, .slice none 0 0, .slice ps S.sch.length cs, .int .i64 S.most] 34 (0, 0))) := Lib.hid (by rw [hW3, ← hs2]; exact heap_alloc_new _ _)
  have HW3 := Lib.hid hW3
  clear h z hs1 hs2 hW3
  go_enter Tryd.func14, Tryd.ntmps14
  go_upto_region 2 with fail
  rw [← HW3.out]
  rw [show w.heap.size + 1 + 1 = w.heap.size + 2 from rfl]
  generalize hrb : w.heap.size = rb at *
  have HRBE := Lib.hid hrb
  clear hrb HW3
  have a0 := (cell_of HX.out 0).trans rfl
  generalize htl : S.tops.length = tl at *
  generalize hhl : S.thrs.length = hl at *
  have HTL := Lib.hid htl
  have HHL := Lib.hid hhl
  clear htl hhl
  obtain ⟨i82, hi82, z0, z1, z2⟩ := info_parts info82
  obtain ⟨i83, hi83, y0, y1, y2⟩ := info_parts info83
  go_wp2_with fail
  go_loopw [16] (fun iv wr => ∃ (i : Nat) (v : Value), i ≤ tl ∧ iv = .int .i64 i ∧ wr.heap[rb]? = some (.cells #[.slice pt tl ct, .slice ph hl ch, .slice ps S.sch.length cs, .int .i64 S.most] 27 (0, 0)) ∧ wr.heap[rb + 1]? = some (.cells #[.slice none 0 0, .slice none 0 0, .slice none 0 0, .int .i64 0] 34 (0, 0)) ∧
    wr.heap[rb + 2]? = some (.cells #[v, .slice none 0 0, .slice ps S.sch.length cs, .int .i64 S.most] 34 (0, 0)) ∧ wr.ownsRow (rb + 3) 82 2 v i (tcells (S.tops.take i)) ∧ Below rb w wr ∧ rb + 3 ≤ wr.heap.size) (fun iv _ => tl - (intOf iv).toNat)
  case atStart => exact ⟨0, .slice none 0 0, Nat.zero_le _, rfl, HX.out, HR.out, HO.out, ⟨rfl, .inl ⟨rfl, rfl⟩⟩, HB3.out, by have := HSZ.out; omega⟩
  case round =>
    obtain ⟨i, v, hi, rfl, hx, hr, ho, hrow, hlow, hsz⟩ := hrel
    have HXr := Lib.hid hx
    have HRr := Lib.hid hr
    have HOr := Lib.hid ho
    have HROW := Lib.hid hrow
    have HLOW := Lib.hid hlow
    have hAr := HA.out.below (show Below w.heap.size w wr by rw [HRBE.out]; exact hlow)
    have hszw : w.heap.size ≤ wr.heap.size := by have := HRBE.out; omega
    clear hx hr ho hrow hlow a0
    obtain ⟨pv, cv, rfl⟩ := own_slice HROW.out
    by_cases hin : i < tl
    · have hiL : i < S.tops.length := by rw [HTL.out]; exact hin
      obtain ⟨q1, c1, e1, _, hA1⟩ := hAr.tops
      injection e1 with e11 e12 e13
      subst e11
      obtain ⟨ga, oa, rfl, hA2⟩ := hA1.resolve_left (by intro e; have := congrArg List.length e; rw [tcells_length] at this; simp at this; omega)
      obtain ⟨cn, cs2⟩ := tcell_at hA2 hiL
      have hgl := World.block_lt_of_cell? wr _ cn
      clear hAr hA1 hA2 e12 e13
      have HTK : Hid (tcells (S.tops.take (i + 1)) = tcells (S.tops.take i) ++ tcell (S.tops.getD i default)) := Lib.hid (by rw [take_snoc hiL default, tcells_snoc])
      generalize S.tops.getD i default = t at *
      have HSX := Lib.hid (src_one wr (.cells #[.int .i64 t.n, .int .i64 t.s] 62) #[.int .i64 t.n, .int .i64 t.s] 82 2 rfl (tcell_one t))
      have HRA := Lib.hid ((HROW.out.alloc (.cells #[.int .i64 t.n, .int .i64 t.s] 62)).alloc (.cells #[.int .i64 t.n, .int .i64 t.s] 82))
      have HMORE := Lib.hid (fun (v' : Value) (w4 : World) ha => head_more (i := 0) (v' := v') (w4 := w4) (B := rb) (w0 := w) (news := tcell t) (o1 := .cells #[.int .i64 t.n, .int .i64 t.s] 62) (o2 := .cells #[.int .i64 t.n, .int .i64 t.s] 82) HOr.out rfl HROW.out (by decide) HLOW.out (by omega) (by omega) (by omega) hszw ha)
      have o0 : (wr.alloc (.cells #[.int .i64 t.n, .int .i64 t.s] 62)).cell? ⟨rb + 2, 0, none⟩ = some (.slice pv i cv) := (cell_of ((Below.heap_alloc _ _ _ (by omega)).trans HOr.out) 0).trans rfl
      go_wp2_with (at_builtin; go_must (refine wpList_append_row rfl (.tmp 21) (.tmp 27) 31 rfl (rb + 3) 82 i82 _ 2 16 under31 hi82 z0 z1 (by decide) z2 rfl (.slice pv i cv) i (tcells (S.tops.take i)) rfl HRA.out 1 (tcell t) HSX.out ?l2 ?b2 ?n2 ?_); go_must (case l2 => (unfold maxLen; omega)); go_must (case b2 => omega); go_must (case n2 => (simp; omega)); intro v' w4 ha; go_must (obtain ⟨vp, vc, rfl⟩ := own_slice ha.1); go_must (obtain ⟨k1, k2, k3, k4, k5, k6, k7⟩ := HMORE.out _ w4 ha); have HK3 := Lib.hid k3; have HK4 := Lib.hid k4; have HK5 := Lib.hid k5; have HK6 := Lib.hid k6; have HK7 := Lib.hid k7; clear k3 k4 k5 k6 k7 ha)
      go_roundw
      case rel =>
        refine ⟨i + 1, .slice vp (i + 1) vc, by omega, by go_num, HK6.out _ _ _ (by omega) (by decide) HXr.out, HK6.out _ _ _ (by omega) (by decide) HRr.out, HK3.out, ?_, HK5.out, by have := HK7.out; omega⟩
        rw [HTK.out]
        exact HK4.out
      case measure => simp [intOf]; omega
    · obtain rfl : i = tl := by omega
      have HTR : Hid (wr.ownsRow (rb + 3) 82 2 (.slice pv i cv) i (tcells S.tops)) := Lib.hid (by
        have h := HROW.out
        rw [List.take_of_length_le (by rw [HTL.out]; omega)] at h
        exact h)
      have a1 := (cell_of HXr.out 1).trans rfl
      clear hAr HROW hszw
      obtain ⟨wo, hwo⟩ : ∃ wo, wo = wr := ⟨_, rfl⟩
      subst hwo
      go_wp2_with fail
      go_loopw [34] (fun iv wr => ∃ (j : Nat) (v : Value), j ≤ hl ∧ iv = .int .i64 j ∧ wr.heap[rb + 1]? = some (.cells #[.slice none 0 0, .slice none 0 0, .slice none 0 0, .int .i64 0] 34 (0, 0)) ∧
        wr.heap[rb + 2]? = some (.cells #[.slice pv i cv, v, .slice ps S.sch.length cs, .int .i64 S.most] 34 (0, 0)) ∧ wr.ownsRow (rb + 3) 82 2 (.slice pv i cv) i (tcells S.tops) ∧ wr.ownsRow (rb + 3) 83 2 v j (hcells (S.thrs.take j) V) ∧ Below rb w wr ∧ rb + 3 ≤ wr.heap.size) (fun iv _ => hl - (intOf iv).toNat)
      case atStart => exact ⟨0, .slice none 0 0, Nat.zero_le _, rfl, HRr.out, HOr.out, HTR.out, ⟨rfl, .inl ⟨rfl, rfl⟩⟩, HLOW.out, hsz⟩
      case round =>
        obtain ⟨j, v, hj, rfl, hr, ho, htr, hrow, hlow, hsz2⟩ := hrel
        have HR2 := Lib.hid hr
        have HO2 := Lib.hid ho
        have HT2 := Lib.hid htr
        have HROW := Lib.hid hrow
        have HL2 := Lib.hid hlow
        have hAr := HA.out.below (show Below w.heap.size w wr by rw [HRBE.out]; exact hlow)
        have hszw : w.heap.size ≤ wr.heap.size := by have := HRBE.out; omega
        clear hr ho htr hrow hlow a1
        obtain ⟨pu, cu, rfl⟩ := own_slice HROW.out
        by_cases hjn : j < hl
        · have hjL : j < S.thrs.length := by rw [HHL.out]; exact hjn
          obtain ⟨q1, c1, e1, _, hA1⟩ := hAr.thrs
          injection e1 with e11 e12 e13
          subst e11
          obtain ⟨ga, oa, rfl, hA2⟩ := hA1.resolve_left (by intro e; have := congrArg List.length e; rw [hcells_length] at this; simp at this; omega)
          obtain ⟨cn, cv2⟩ := hcell_name hA2 hjL
          obtain ⟨pw, cw, ew, _, _⟩ := hAr.each j hjL
          clear hAr hA1 hA2 e12 e13
          have HTK := Lib.hid (hcells_take (V := V) hjL)
          rw [ew] at cv2 HTK
          generalize S.thrs.getD j default = t at *
          have HSX := Lib.hid (src_one wr (.cells #[.string ⟨t.name.toArray⟩, .slice pw t.ops.length cw] 58) #[.string ⟨t.name.toArray⟩, .slice pw t.ops.length cw] 83 2 rfl (hcell_one t _ rfl))
          have HRA := Lib.hid ((HROW.out.alloc (.cells #[.string ⟨t.name.toArray⟩, .slice pw t.ops.length cw] 58)).alloc (.cells #[.string ⟨t.name.toArray⟩, .slice pw t.ops.length cw] 83))
          have HMORE := Lib.hid (fun (v' : Value) (w4 : World) ha => head_more (i := 1) (v' := v') (w4 := w4) (B := rb) (w0 := w) (news := hcell t (.slice pw t.ops.length cw)) (o1 := .cells #[.string ⟨t.name.toArray⟩, .slice pw t.ops.length cw] 58) (o2 := .cells #[.string ⟨t.name.toArray⟩, .slice pw t.ops.length cw] 83) HO2.out rfl HROW.out (by decide) HL2.out (by omega) (by omega) (by omega) hszw ha)
          have HTK2 : Hid (∀ v' w4, Appended ((wr.alloc (.cells #[.string ⟨t.name.toArray⟩, .slice pw t.ops.length cw] 58)).alloc (.cells #[.string ⟨t.name.toArray⟩, .slice pw t.ops.length cw] 83)) (rb + 3) 83 2 (.slice pu j cu) j 1 (hcells (S.thrs.take j) V ++ hcell t (.slice pw t.ops.length cw)) v' w4 → (w4.setCell ⟨rb + 2, 1, none⟩ v').ownsRow (rb + 3) 82 2 (.slice pv i cv) i (tcells S.tops)) := Lib.hid (fun v' w4 ha => by
            have h1 := own_other (v' := .slice pu j cu) ((HT2.out.alloc (.cells #[.string ⟨t.name.toArray⟩, .slice pw t.ops.length cw] 58)).alloc (.cells #[.string ⟨t.name.toArray⟩, .slice pw t.ops.length cw] 83)) HRA.out ha.2.1 (by decide)
            have h2 : w4.heap[rb + 2]? = _ := head_other HRA.out ((Below.heap_alloc _ _ _ (by simp; omega)).trans ((Below.heap_alloc _ _ _ (by omega)).trans HO2.out)) ha.2.1 (by decide)
            exact own_head h1 h2 (grown_set _ _ _ _) (by decide))
          have o1 : (wr.alloc (.cells #[.string ⟨t.name.toArray⟩, .slice pw t.ops.length cw] 58)).cell? ⟨rb + 2, 1, none⟩ = some (.slice pu j cu) := (cell_of ((Below.heap_alloc _ _ _ (by omega)).trans HO2.out) 1).trans rfl
          clear ew
          go_wp2_with (at_builtin; go_must (refine wpList_append_row rfl (.tmp 39) (.tmp 45) 32 rfl (rb + 3) 83 i83 _ 2 40 under32 hi83 y0 y1 (by decide) y2 rfl (.slice pu j cu) j (hcells (S.thrs.take j) V) rfl HRA.out 1 (hcell t (.slice pw t.ops.length cw)) HSX.out ?l2 ?b2 ?n2 ?_); go_must (case l2 => (unfold maxLen; omega)); go_must (case b2 => omega); go_must (case n2 => (simp; omega)); intro v' w4 ha; go_must (have HT5 := Lib.hid (HTK2.out _ w4 ha)); go_must (obtain ⟨vp, vc, rfl⟩ := own_slice ha.1); go_must (obtain ⟨k1, k2, k3, k4, k5, k6, k7⟩ := HMORE.out _ w4 ha); have HK3 := Lib.hid k3; have HK4 := Lib.hid k4; have HK5 := Lib.hid k5; have HK6 := Lib.hid k6; have HK7 := Lib.hid k7; clear k3 k4 k5 k6 k7 ha)
          go_roundw
          case rel =>
            refine ⟨j + 1, .slice vp (j + 1) vc, by omega, by go_num, HK6.out _ _ _ (by omega) (by decide) HR2.out, HK3.out, HT5.out, ?_, HK5.out, by have := HK7.out; omega⟩
            rw [HTK.out]
            exact HK4.out
          case measure => simp [intOf]; omega
        · obtain rfl : j = hl := by omega
          have HHR : Hid (wr.ownsRow (rb + 3) 83 2 (.slice pu j cu) j (hcells S.thrs V)) := Lib.hid (by
            have h := HROW.out
            rw [List.take_of_length_le (by rw [HHL.out]; omega)] at h
            exact h)
          have HAr := Lib.hid hAr
          clear HROW hAr
          have o0 := (cell_of HO2.out 0).trans rfl
          have o1 := (cell_of HO2.out 1).trans rfl
          have o2 := (cell_of HO2.out 2).trans rfl
          have o3 := (cell_of HO2.out 3).trans rfl
          have r0 := (cell_of HR2.out 0).trans rfl
          have r1 := (cell_of HR2.out 1).trans rfl
          have r2 := (cell_of HR2.out 2).trans rfl
          have r3 := (cell_of HR2.out 3).trans rfl
          have r4 := free_of HR2.out
          go_wp2_with fail
          have hst := store_scrT HR2.out rfl HL2.out (Nat.le_succ rb) (.slice pv i cv) (.slice pu j cu) (.slice ps S.sch.length cs) (.int .i64 S.most)
          refine bodyPost_ret (results_cell_one (fn := Tryd.f14) (p := 2) (ty := 34) rfl _ _ _ _ ⟨rb + 1, 0, none⟩ rfl (load_scr34 hst.1)) rfl ?_
          have hset : ∀ (e : Nat) (N k n : Nat) (v : Value) (xs : List Value), e ≠ 34 → wr.ownsRow N e k v n xs → ((((wr.setCell ⟨rb + 1, 0, none⟩ (.slice pv i cv)).setCell ⟨rb + 1, 1, none⟩ (.slice pu j cu)).setCell ⟨rb + 1, 2, none⟩ (.slice ps S.sch.length cs)).setCell ⟨rb + 1, 3, none⟩ (.int .i64 S.most)).ownsRow N e k v n xs := fun e N k n v xs he ho => by
            have h0 := own_head ho HR2.out (grown_set _ _ 0 (.slice pv i cv)) he
            have g0 := set_at HR2.out 0 (.slice pv i cv)
            have h1 := own_head h0 g0 (grown_set _ _ 1 (.slice pu j cu)) he
            have g1 := set_at g0 1 (.slice pu j cu)
            have h2 := own_head h1 g1 (grown_set _ _ 2 (.slice ps S.sch.length cs)) he
            have g2 := set_at g1 2 (.slice ps S.sch.length cs)
            exact own_head h2 g2 (grown_set _ _ 3 (.int .i64 S.most)) he
          have hsc := HA.out.below (show Below w.heap.size w _ by rw [HRBE.out]; exact hst.2)
          refine ⟨.slice pv i cv, .slice pu j cu, rfl, ⟨?_, ?_, hsc.sch, hsc.each⟩, by rw [HRBE.out]; exact hst.2⟩
          · rw [HTL.out]
            exact .of_own (hset 82 _ _ _ _ _ (by decide) HT2.out)
          · rw [HHL.out]
            exact .of_own (hset 83 _ _ _ _ _ (by decide) HHR.out)
end Go.Proofs.YtdmhlhoimaeacaaDoor
