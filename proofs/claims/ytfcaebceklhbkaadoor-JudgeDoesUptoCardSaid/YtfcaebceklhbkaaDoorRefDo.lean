/-
  The contract of the document's Do, for every object; judge.Do's for every object.
-/
import Derived.Test.YtfcaebceklhbkaaDoorDoAll
import Derived.Test.YtfcaebceklhbkaaDoorOnStep
import Derived.Test.YtfcaebceklhbkaaDoorRefOne
import Derived.Test.YtfcaebceklhbkaaDoorRefPut
import Derived.Test.YtfcaebceklhbkaaDoorRefRow
import Derived.Lib.AppendZeros
namespace Go.Proofs.YtfcaebceklhbkaaDoor
open Go.RowKit
set_option linter.unusedVariables false

theorem doOk_all (o : Int) : DoOk o := by
  intro v l k a b c w h hl
  by_cases h1 : o = 1
  · subst h1; exact doOne_walk 1 (.inl rfl) v l k a b c w h hl
  · by_cases h2 : o = 2
    · subst h2; exact doOne_walk 2 (.inr rfl) v l k a b c w h hl
    · exact doRest_walk o h1 h2 v l k a b c w h hl

theorem putS_len {r : List Int} {a : Int} (h : Rise r) : (putS a r).length = r.length + (if a ∈ r then 0 else 1) := by
  by_cases ha : a ∈ r
  · rw [putS_in h ha, if_pos ha]; rfl
  · rw [if_neg ha, ← insF_put h ha]
    have := below_le r a
    simp [insF]
    omega
theorem filter_len {r : List Int} {a : Int} (h : Rise r) : (r.filter (· ≠ a)).length + (if a ∈ r then 1 else 0) = r.length := by
  by_cases ha : a ∈ r
  · rw [if_pos ha, ← del_filter h ha]
    have := (below_at h ha).1
    simp
    omega
  · rw [if_neg ha, filter_out ha]; rfl

/-- append(nil, state...): a row of the call's own. -/
theorem app_state {w : World} {v : Value} {l : List Int} (h : Nums w v l) (hl : l.length ≤ 4000000) :
    ∃ v' w', (Builtin.append_ #[22, 22] 22 #[.slice none 0 0, v]).run Tryd.prog w = .ok v' w' ∧ w'.ownsRow w.heap.size 2 1 v' l.length (numV l) ∧ Below w.heap.size w w' := by
  obtain ⟨i0, hi0, hz0, hz1, hz2⟩ := info_parts info2
  have h' := h
  obtain ⟨ao, c, rfl, h⟩ := h
  cases ao with
  | none =>
    have hl0 : l = [] := by
      rcases h with h | ⟨g, o, e, _⟩
      · exact h
      · cases e
    subst hl0
    refine ⟨.slice none 0 0, w, ?_, World.ownsRow_nil _ _ _ _, Below.refl _ _⟩
    simp [Builtin.append_, run_underlying Tryd.underlying22, sizeOf, typeInfo, hi0, Builtin.lenOf, Builtin.firstCells]
  | some ad =>
    obtain ⟨v', w', hr, h1, h2, h3⟩ := run_append_row (P := Tryd.prog) w w.heap.size 22 22 2 i0 _ 1 8 Tryd.underlying22 hi0 hz0 hz1 (by decide) hz2 rfl (.slice none 0 0) 0 [] (World.ownsRow_nil _ _ _ _) (.slice (some ad) l.length c) l.length (l.map (Value.int .i64)) (nums_src h') (by unfold maxLen; omega) (by omega) (Nat.le_refl _)
    refine ⟨v', w', hr, by simpa [numV] using h1, (Below.refl _ _).grown h2 (Nat.le_refl _) (fun k hk => ?_)⟩
    cases hk
theorem ansC {w3 w' : World} {ok : Bool} {n : Int} (hb : Below w3.heap.size w3 w') : AnsAt w3 ok n (.pointer (some ⟨w'.heap.size, 0, none⟩)) (w'.alloc (.cells #[.bool ok, .int .i64 n, .slice none 0 0] 26)) :=
  ⟨_, rfl, heap_alloc_new w' _, hb.size, hb.alloc hb.size _⟩

set_option maxRecDepth 100000 in
set_option maxHeartbeats 8000000 in
theorem refDo_walk (o : Int) (v : Value) (l : List Int) (k a b c : Int) (w : World) (h : Nums w v l) (hl : l.length ≤ 4000000) :
    Calls Tryd.prog 13 #[.int .i64 o, v, opV k a b c] w (DoneD (doF o l k a b) w) := by
  have HB2 : Hid (Below w.heap.size w ((w.alloc (.cells #[.int .i64 k, .int .i64 a, .int .i64 b, .int .i64 c] 31)).alloc (.cells #[.bool false, .int .i64 0, .slice none 0 0] 26))) := below_two _ _ _
  obtain ⟨s, w3, hap, hs, hb3⟩ := app_state (h.below HB2.out) hl
  have HAP := Lib.hid hap
  have hw2 : ((w.alloc (.cells #[.int .i64 k, .int .i64 a, .int .i64 b, .int .i64 c] 31)).alloc (.cells #[.bool false, .int .i64 0, .slice none 0 0] 26)).heap.size = w.heap.size + 2 := by simp
  have hop : ((w.alloc (.cells #[.int .i64 k, .int .i64 a, .int .i64 b, .int .i64 c] 31)).alloc (.cells #[.bool false, .int .i64 0, .slice none 0 0] 26)).heap[w.heap.size]? = some (.cells #[.int .i64 k, .int .i64 a, .int .i64 b, .int .i64 c] 31 (0, 0)) := by
    rw [Below.heap_alloc _ _ _ (by simp)]
    exact heap_alloc_new w _
  have hrs : ((w.alloc (.cells #[.int .i64 k, .int .i64 a, .int .i64 b, .int .i64 c] 31)).alloc (.cells #[.bool false, .int .i64 0, .slice none 0 0] 26)).heap[w.heap.size + 1]? = some (.cells #[.bool false, .int .i64 0, .slice none 0 0] 26 (0, 0)) := by
    have := heap_alloc_new (w.alloc (.cells #[.int .i64 k, .int .i64 a, .int .i64 b, .int .i64 c] 31)) (.cells #[.bool false, .int .i64 0, .slice none 0 0] 26)
    simpa using this
  have HOP := Lib.hid hop
  have HRS := Lib.hid hrs
  have HW2 := Lib.hid hw2
  have HF : Hid (doF o l k a b = if o = 1 ∨ o = 2 then ([(singleF o (l.headD 0) k a b).1], (singleF o (l.headD 0) k a b).2) else if o = 3 ∨ o = 4 then rowF o l k a else if o = 5 then setRF (riseF l) k a else (l, false, 0)) := rfl
  have hsz : w.heap.size + 2 ≤ w3.heap.size := by
    have := hb3.size
    rwa [hw2] at this
  rw [hw2] at hs hb3
  have HS := Lib.hid hs
  have HB3 := Lib.hid (HB2.out.trans (hb3.mono (by omega)))
  have hop3 : w3.heap[w.heap.size]? = some (.cells #[.int .i64 k, .int .i64 a, .int .i64 b, .int .i64 c] 31 (0, 0)) := (hb3.block w.heap.size (by omega)).trans hop
  have hrs3 : w3.heap[w.heap.size + 1]? = some (.cells #[.bool false, .int .i64 0, .slice none 0 0] 26 (0, 0)) := (hb3.block (w.heap.size + 1) (by omega)).trans hrs
  have HOP3 := Lib.hid hop3
  have HRS3 := Lib.hid hrs3
  have HSN := Lib.hid (owned_nums hs).nums
  clear h hop hrs hw2 hs hb3 hap
  unfold opV at *
  go_enter Tryd.func13, Tryd.ntmps13
  by_cases ho12 : o = 1 ∨ o = 2
  · have HX := Lib.hid (show doF o l k a b = ([(singleF o (l.headD 0) k a b).1], (singleF o (l.headD 0) k a b).2) from by rw [hid_eq HF, if_pos ho12])
    have H43 : Hid (∀ W, Calls Tryd.prog 43 #[.int .i64 o, .int .i64 (l.headD 0), .agg #[.int .i64 k, .int .i64 a, .int .i64 b, .int .i64 c]] W fun e w' =>
      e = .returned (.tuple #[.int .i64 (singleF o (l.headD 0) k a b).1, .agg #[.bool (singleF o (l.headD 0) k a b).2.1, .int .i64 (singleF o (l.headD 0) k a b).2.2, .slice none 0 0]]) ∧ Below W.heap.size W w') := fun W => refOne_walk o _ k a b c W ho12
    have c0 := (cell_of hop3 0).trans rfl
    have c1 := (cell_of hop3 1).trans rfl
    have c2 := (cell_of hop3 2).trans rfl
    have c3 := (cell_of hop3 3).trans rfl
    have H42 := Lib.hid (refNumber_walk s l w3 HSN.out hl)
    clear HF hop3 hrs3
    generalize hx : singleF o (l.headD 0) k a b = x at *
    generalize l.headD 0 = x0 at *
    rcases ho12 with rfl | rfl
    all_goals
      go_wp2_with (at_builtin; go_must (refine Lib.wpList_append_run _ rfl _ _ _ _ rfl _ _ rfl rfl _ _ HAP.out ?_))
      refine H42.out.mono ?_
      rintro e w' ⟨rfl, rfl⟩
      go_wp2_with fail
      refine (H43.out _).mono ?_
      rintro e w4 ⟨rfl, hb⟩
      go_wp2_with fail
      obtain ⟨g, hgp, hg, hgs, hbx⟩ := ansC (ok := x.2.1) (n := x.2.2) hb
      cases hgp
      generalize w4.alloc (.cells #[.bool x.2.1, .int .i64 x.2.2, .slice none 0 0] 26) = wc at *
      generalize w4.heap.size = g at *
      have HG := Lib.hid hg
      have HBX := Lib.hid hbx
      have hr : wc.heap[w.heap.size + 1]? = some (.cells #[.bool false, .int .i64 0, .slice none 0 0] 26 (0, 0)) := (hbx.block _ (by omega)).trans HRS3.out
      have HR := Lib.hid hr
      have e0 := (cell_of hg 0).trans rfl
      have e1 := (cell_of hg 1).trans rfl
      have e2 := (cell_of hg 2).trans rfl
      have f0 : ∀ o, (wc.alloc o).cell? ⟨g, 0, none⟩ = some (.bool x.2.1) := fun o => (World.cell?_of_block (Below.heap_alloc _ _ _ (World.block_lt_of_cell? _ _ e0))).trans e0
      have f1 : ∀ o, (wc.alloc o).cell? ⟨g, 1, none⟩ = some (.int .i64 x.2.2) := fun o => (World.cell?_of_block (Below.heap_alloc _ _ _ (World.block_lt_of_cell? _ _ e1))).trans e1
      have f2 : ∀ o, (wc.alloc o).cell? ⟨g, 2, none⟩ = some (.slice none 0 0) := fun o => (World.cell?_of_block (Below.heap_alloc _ _ _ (World.block_lt_of_cell? _ _ e2))).trans e2
      have k0 : wc.cell? ⟨w.heap.size + 1, 0, none⟩ = some (.bool false) := (cell_of hr 0).trans rfl
      have k1 : wc.cell? ⟨w.heap.size + 1, 1, none⟩ = some (.int .i64 0) := (cell_of hr 1).trans rfl
      have k2 : wc.cell? ⟨w.heap.size + 1, 2, none⟩ = some (.slice none 0 0) := (cell_of hr 2).trans rfl
      have k3 := free_of hr 0
      have k4 := free_of hr 1
      have k5 := free_of hr 2
      have q0 : ∀ o, (wc.alloc o).cell? ⟨w.heap.size + 1, 0, none⟩ = some (.bool false) := fun o => (World.cell?_of_block (Below.heap_alloc _ _ _ (World.block_lt_of_cell? _ _ k0))).trans k0
      have q1 : ∀ o, (wc.alloc o).cell? ⟨w.heap.size + 1, 1, none⟩ = some (.int .i64 0) := fun o => (World.cell?_of_block (Below.heap_alloc _ _ _ (World.block_lt_of_cell? _ _ k1))).trans k1
      have q2 : ∀ o, (wc.alloc o).cell? ⟨w.heap.size + 1, 2, none⟩ = some (.slice none 0 0) := fun o => (World.cell?_of_block (Below.heap_alloc _ _ _ (World.block_lt_of_cell? _ _ k2))).trans k2
      have q3 : ∀ o, (wc.alloc o).frozen? ⟨w.heap.size + 1, 0, none⟩ = false := fun o => (World.frozen?_of_block (Below.heap_alloc _ _ _ (World.block_lt_of_cell? _ _ k0))).trans k3
      have q4 : ∀ o, (wc.alloc o).frozen? ⟨w.heap.size + 1, 1, none⟩ = false := fun o => (World.frozen?_of_block (Below.heap_alloc _ _ _ (World.block_lt_of_cell? _ _ k1))).trans k4
      have q5 : ∀ o, (wc.alloc o).frozen? ⟨w.heap.size + 1, 2, none⟩ = false := fun o => (World.frozen?_of_block (Below.heap_alloc _ _ _ (World.block_lt_of_cell? _ _ k2))).trans k5
      clear hg hbx hr
      go_wp2_with fail
      go_region
      all_goals (go_wp2_with fail)
      try simp only [Exit.inBlock, Exit.then]
      obtain ⟨z1, z2, z3⟩ := do_end w wc w.heap.size x.1 x.2.2 x.2.1 _ _ _ HR.out (HB3.out.trans (HBX.out.mono (by omega))) (by have := HBX.out.size; omega)
      rw [HX.out]
      refine bodyPost_ret (results_tmp_cell (fn := Tryd.f13) (u := 6) (p := 7) (ty := 26) rfl _ _ _ _ ⟨w.heap.size + 1, 0, none⟩ rfl (load_ans _ (w.heap.size + 1) _ _ _ ((cell_of z1 0).trans rfl) ((cell_of z1 1).trans rfl) ((cell_of z1 2).trans rfl))) rfl ⟨_, rfl, ?_, ?_⟩
      · exact z2
      · exact z3
  · have e1 : (o == 1) = false := by rw [beq_eq_false_iff_ne]; omega
    have e2 : (o == 2) = false := by rw [beq_eq_false_iff_ne]; omega
    by_cases ho34 : o = 3 ∨ o = 4
    · have HX := Lib.hid (show doF o l k a b = rowF o l k a from by rw [hid_eq HF, if_neg ho12, if_pos ho34])
      have c0 := (cell_of hop3 0).trans rfl
      have c1 := (cell_of hop3 1).trans rfl
      have c2 := (cell_of hop3 2).trans rfl
      have c3 := (cell_of hop3 3).trans rfl
      have H44 : Hid (Calls Tryd.prog 44 #[.int .i64 o, s, .agg #[.int .i64 k, .int .i64 a, .int .i64 b, .int .i64 c]] w3 fun e w' => ∃ v', e = .returned (.tuple #[v', .agg #[.bool (rowF o l k a).2.1, .int .i64 (rowF o l k a).2.2, .slice none 0 0]]) ∧ OwnNums (w.heap.size + 2) w' v' (rowF o l k a).1 ∧ Below (w.heap.size + 2) w3 w') :=
        refRow_walk (w.heap.size + 2) o ho34 s l k a b c w3 hsz HS.out hl
      generalize rowF o l k a = x at *
      obtain ⟨xl, xo, xn⟩ := x
      simp only at H44
      clear HF hop3 hrs3
      rcases ho34 with rfl | rfl
      all_goals
        go_wp2_with (at_builtin; go_must (refine Lib.wpList_append_run _ rfl _ _ _ _ rfl _ _ rfl rfl _ _ HAP.out ?_))
        refine H44.out.mono ?_
        rintro e w4 ⟨v4, rfl, ho4, hb4⟩
        have HO4 := Lib.hid (ho4.mono (show w.heap.size ≤ w.heap.size + 2 by omega))
        have hr4 := (hb4.block (w.heap.size + 1) (by omega)).trans HRS3.out
        have HR4 := Lib.hid hr4
        have HB4 := Lib.hid (HB3.out.trans (hb4.mono (show w.heap.size ≤ w.heap.size + 2 by omega)))
        have s0 := (cell_of hr4 0).trans rfl
        have s1 := (cell_of hr4 1).trans rfl
        have s2 := (cell_of hr4 2).trans rfl
        have s3 := free_of hr4 0
        have s4 := free_of hr4 1
        have s5 := free_of hr4 2
        clear ho4 hr4 hb4 c0 c1 c2 c3
        go_wp2_with fail
        all_goals (try simp only [Exit.inBlock, Exit.then])
        rw [HX.out]
        show bodyPost Tryd.prog Tryd.f13 (DoneR w.heap.size (xl, xo, xn) w) _ _ _
        exact fin_op (fn := Tryd.f13) (u := 6) (p := 7) (v := v4) rfl rfl rfl rfl (show w.heap.size ≤ w.heap.size + 1 by omega) HB4.out HR4.out HO4.out _ (.inl rfl)
    · have e3 : (o == 3) = false := by rw [beq_eq_false_iff_ne]; omega
      have e4 : (o == 4) = false := by rw [beq_eq_false_iff_ne]; omega
      by_cases ho5 : o = 5
      · have hX0 : doF o l k a b = setRF (riseF l) k a := by rw [hid_eq HF, if_neg ho12, if_neg ho34, if_pos ho5]
        subst ho5
        have HX := Lib.hid hX0
        clear hX0
        have H45 := Lib.hid (rising_walk s l w3 HSN.out hl)
        rw [riAt_rise l] at H45
        have HRI := Lib.hid (riseF_rise l)
        have hrl : (riseF l).length ≤ 4000000 := by have := riseF_length l; omega
        clear HF hop3 hrs3
        generalize riseF l = R at *
        go_wp2_with (at_builtin; go_must (refine Lib.wpList_append_run _ rfl _ _ _ _ rfl _ _ rfl rfl _ _ HAP.out ?_))
        refine H45.out.mono ?_
        rintro e w4 ⟨v4, rfl, hs4, hb4⟩
        have hsz4 : w.heap.size + 2 ≤ w4.heap.size := Nat.le_trans hsz hb4.size
        have HO4 := Lib.hid (owned_nums hs4)
        have hb4' : Below (w.heap.size + 2) w3 w4 := hb4.mono hsz
        have hop4 := (hb4'.block w.heap.size (by omega)).trans HOP3.out
        have hrs4 := (hb4'.block (w.heap.size + 1) (by omega)).trans HRS3.out
        have HRS4 := Lib.hid hrs4
        have HB4 := Lib.hid (HB3.out.trans (hb4'.mono (show w.heap.size ≤ w.heap.size + 2 by omega)))
        have c0 := (cell_of hop4 0).trans rfl
        have c1 := (cell_of hop4 1).trans rfl
        have c2 := (cell_of hop4 2).trans rfl
        have c3 := (cell_of hop4 3).trans rfl
        obtain ⟨ro, rc, rfl⟩ : ∃ ro rc, v4 = .slice ro R.length rc := by
          rcases hs4.2 with ⟨e, h0⟩ | ⟨g, cap, _, e, _⟩
          · exact ⟨none, 0, by rw [e, h0]⟩
          · exact ⟨_, cap, e⟩
        clear hs4 hb4 hb4' hop4 hrs4
        have hpl := putS_len (a := a) HRI.out
        have hfl := filter_len (a := a) HRI.out
        have hta : (decide (a ∈ R) = true) = (a ∈ R) := by simp
        by_cases hk1 : k = 1
        · subst hk1
          have HXX := Lib.hid (show doF 5 l 1 a b = (R, decide (a ∈ R), 0) from HX.out)
          have H4 := Lib.hid (put_walk (.slice ro R.length rc) R a w4 HO4.out.nums hrl)
          rw [putR_put HRI.out] at H4
          generalize hT : putS a R = T at *
          have hTl : T.length ≤ 4000001 := by split at hpl <;> omega
          have hcmp : ((T.length : Int) == (R.length : Int)) = decide (a ∈ R) := by
            by_cases ha : a ∈ R
            · rw [if_pos ha] at hpl; simp [ha, hpl]
            · rw [if_neg ha] at hpl; simp [ha, hpl]; omega
          have HC := Lib.hid hcmp
          clear hcmp hpl hfl
          go_wp2_with fail
          refine H4.out.mono ?_
          rintro e w5 ⟨v5, rfl, hs5, hb5⟩
          have hb5' : Below (w.heap.size + 2) w4 w5 := hb5.mono hsz4
          have hr5 := (hb5'.block (w.heap.size + 1) (by omega)).trans HRS4.out
          have HR5 := Lib.hid hr5
          have HB5 := Lib.hid (HB4.out.trans (hb5'.mono (show w.heap.size ≤ w.heap.size + 2 by omega)))
          have HO5 := Lib.hid ((owned_nums hs5).mono (show w.heap.size ≤ w4.heap.size by omega))
          have HO6 := Lib.hid (OwnNums.keep (N0 := w.heap.size) HO4.out (by omega) (fun g _ hg => hb5.block g hg))
          have s0 := (cell_of hr5 0).trans rfl
          have s1 := (cell_of hr5 1).trans rfl
          have s2 := (cell_of hr5 2).trans rfl
          have s3 := free_of hr5 0
          have s4 := free_of hr5 1
          have s5 := free_of hr5 2
          obtain ⟨te, tc, rfl⟩ : ∃ te tc, v5 = .slice te T.length tc := by
            rcases hs5.2 with ⟨e, h0⟩ | ⟨g, cap, _, e, _⟩
            · exact ⟨none, 0, by rw [e, h0]⟩
            · exact ⟨_, cap, e⟩
          clear hs5 hb5 hb5' hr5 c0 c1 c2 c3
          go_wp2_with fail
          all_goals (try simp only [Exit.inBlock, Exit.then])
          all_goals (rw [HXX.out, ← HC.out])
          all_goals (show bodyPost Tryd.prog Tryd.f13 (DoneR w.heap.size _ w) _ _ _)
          all_goals (exact fin_op (fn := Tryd.f13) (u := 6) (p := 7) (v := .slice ro R.length rc) rfl rfl rfl rfl (show w.heap.size ≤ w.heap.size + 1 by omega) HB5.out HR5.out HO6.out _ (.inl rfl))
        · have q1 : (k == 1) = false := by rw [beq_eq_false_iff_ne]; exact hk1
          by_cases hk2 : k = 2
          · subst hk2
            have HXX := Lib.hid (show doF 5 l 2 a b = (putS a R, !decide (a ∈ R), 0) from HX.out)
            have H4 := Lib.hid (put_walk (.slice ro R.length rc) R a w4 HO4.out.nums hrl)
            rw [putR_put HRI.out] at H4
            generalize hT : putS a R = T at *
            have hTl : T.length ≤ 4000001 := by split at hpl <;> omega
            have hcmp : decide (R.length < T.length) = !decide (a ∈ R) := by
              by_cases ha : a ∈ R
              · rw [if_pos ha] at hpl; simp [ha, hpl]
              · rw [if_neg ha] at hpl; simp [ha, hpl]
            have HC := Lib.hid hcmp
            clear hcmp hpl hfl
            go_wp2_with fail
            refine H4.out.mono ?_
            rintro e w5 ⟨v5, rfl, hs5, hb5⟩
            have hb5' : Below (w.heap.size + 2) w4 w5 := hb5.mono hsz4
            have hr5 := (hb5'.block (w.heap.size + 1) (by omega)).trans HRS4.out
            have HR5 := Lib.hid hr5
            have HB5 := Lib.hid (HB4.out.trans (hb5'.mono (show w.heap.size ≤ w.heap.size + 2 by omega)))
            have HO5 := Lib.hid ((owned_nums hs5).mono (show w.heap.size ≤ w4.heap.size by omega))
            have HO6 := Lib.hid (OwnNums.keep (N0 := w.heap.size) HO4.out (by omega) (fun g _ hg => hb5.block g hg))
            have s0 := (cell_of hr5 0).trans rfl
            have s1 := (cell_of hr5 1).trans rfl
            have s2 := (cell_of hr5 2).trans rfl
            have s3 := free_of hr5 0
            have s4 := free_of hr5 1
            have s5 := free_of hr5 2
            obtain ⟨te, tc, rfl⟩ : ∃ te tc, v5 = .slice te T.length tc := by
              rcases hs5.2 with ⟨e, h0⟩ | ⟨g, cap, _, e, _⟩
              · exact ⟨none, 0, by rw [e, h0]⟩
              · exact ⟨_, cap, e⟩
            clear hs5 hb5 hb5' hr5 c0 c1 c2 c3
            go_wp2_with fail
            all_goals (try simp only [Exit.inBlock, Exit.then])
            all_goals (rw [HXX.out, ← HC.out])
            all_goals (show bodyPost Tryd.prog Tryd.f13 (DoneR w.heap.size _ w) _ _ _)
            all_goals (exact fin_op (fn := Tryd.f13) (u := 6) (p := 7) (v := .slice te T.length tc) rfl rfl rfl rfl (show w.heap.size ≤ w.heap.size + 1 by omega) HB5.out HR5.out HO5.out _ (.inl rfl))
          · have q2 : (k == 2) = false := by rw [beq_eq_false_iff_ne]; exact hk2
            by_cases hk3 : k = 3
            · subst hk3
              have HXX := Lib.hid (show doF 5 l 3 a b = (R.filter (· ≠ a), decide (a ∈ R), 0) from HX.out)
              have H4 := Lib.hid (without_walk (.slice ro R.length rc) R a w4 HO4.out.nums hrl)
              skip
              generalize hT : R.filter (· ≠ a) = T at *
              have hTl : T.length ≤ 4000001 := by split at hfl <;> omega
              have hcmp : decide (T.length < R.length) = decide (a ∈ R) := by
                by_cases ha : a ∈ R
                · rw [if_pos ha] at hfl; simp [ha]; omega
                · rw [if_neg ha] at hfl; simp [ha]; omega
              have HC := Lib.hid hcmp
              clear hcmp hpl hfl
              go_wp2_with fail
              refine H4.out.mono ?_
              rintro e w5 ⟨v5, rfl, hs5, hb5⟩
              have hb5' : Below (w.heap.size + 2) w4 w5 := hb5.mono hsz4
              have hr5 := (hb5'.block (w.heap.size + 1) (by omega)).trans HRS4.out
              have HR5 := Lib.hid hr5
              have HB5 := Lib.hid (HB4.out.trans (hb5'.mono (show w.heap.size ≤ w.heap.size + 2 by omega)))
              have HO5 := Lib.hid ((owned_nums hs5).mono (show w.heap.size ≤ w4.heap.size by omega))
              have HO6 := Lib.hid (OwnNums.keep (N0 := w.heap.size) HO4.out (by omega) (fun g _ hg => hb5.block g hg))
              have s0 := (cell_of hr5 0).trans rfl
              have s1 := (cell_of hr5 1).trans rfl
              have s2 := (cell_of hr5 2).trans rfl
              have s3 := free_of hr5 0
              have s4 := free_of hr5 1
              have s5 := free_of hr5 2
              obtain ⟨te, tc, rfl⟩ : ∃ te tc, v5 = .slice te T.length tc := by
                rcases hs5.2 with ⟨e, h0⟩ | ⟨g, cap, _, e, _⟩
                · exact ⟨none, 0, by rw [e, h0]⟩
                · exact ⟨_, cap, e⟩
              clear hs5 hb5 hb5' hr5 c0 c1 c2 c3
              go_wp2_with fail
              all_goals (try simp only [Exit.inBlock, Exit.then])
              all_goals (rw [HXX.out, ← HC.out])
              all_goals (show bodyPost Tryd.prog Tryd.f13 (DoneR w.heap.size _ w) _ _ _)
              all_goals (exact fin_op (fn := Tryd.f13) (u := 6) (p := 7) (v := .slice te T.length tc) rfl rfl rfl rfl (show w.heap.size ≤ w.heap.size + 1 by omega) HB5.out HR5.out HO5.out _ (.inl rfl))
            · have q3 : (k == 3) = false := by rw [beq_eq_false_iff_ne]; exact hk3
              have HXX := Lib.hid (show doF 5 l k a b = (R, false, 0) from by rw [HX.out]; unfold setRF; rw [if_neg hk1, if_neg hk2, if_neg hk3])
              have s0 := (cell_of HRS4.out 0).trans rfl
              have s1 := (cell_of HRS4.out 1).trans rfl
              have s2 := (cell_of HRS4.out 2).trans rfl
              have s3 := free_of HRS4.out 0
              have s4 := free_of HRS4.out 1
              have s5 := free_of HRS4.out 2
              have HO5 := Lib.hid (HO4.out.mono (show w.heap.size ≤ w3.heap.size by omega))
              go_wp2_with fail
              all_goals (try simp only [Exit.inBlock, Exit.then])
              all_goals (rw [HXX.out])
              all_goals (show bodyPost Tryd.prog Tryd.f13 (DoneR w.heap.size _ w) _ _ _)
              all_goals (exact fin_op (fn := Tryd.f13) (u := 6) (p := 7) (v := .slice ro R.length rc) rfl rfl rfl rfl (show w.heap.size ≤ w.heap.size + 1 by omega) HB4.out HRS4.out HO5.out _ (.inl rfl))
      · have e5 : (o == 5) = false := by rw [beq_eq_false_iff_ne]; exact ho5
        have HX := Lib.hid (show doF o l k a b = (l, false, 0) from by rw [hid_eq HF, if_neg ho12, if_neg ho34, if_neg ho5])
        have HO4 := Lib.hid ((owned_nums HS.out).mono (show w.heap.size ≤ w.heap.size + 2 by omega))
        have s0 := (cell_of hrs3 0).trans rfl
        have s1 := (cell_of hrs3 1).trans rfl
        have s2 := (cell_of hrs3 2).trans rfl
        have s3 := free_of hrs3 0
        have s4 := free_of hrs3 1
        have s5 := free_of hrs3 2
        clear HF hop3 hrs3
        go_wp2_with (at_builtin; go_must (refine Lib.wpList_append_run _ rfl _ _ _ _ rfl _ _ rfl rfl _ _ HAP.out ?_))
        all_goals (try simp only [Exit.inBlock, Exit.then])
        rw [HX.out]
        show bodyPost Tryd.prog Tryd.f13 (DoneR w.heap.size (l, false, 0) w) _ _ _
        exact fin_op (fn := Tryd.f13) (u := 6) (p := 7) (v := s) rfl rfl rfl rfl (show w.heap.size ≤ w.heap.size + 1 by omega) HB3.out HRS3.out HO4.out _ (.inl rfl)
end Go.Proofs.YtfcaebceklhbkaaDoor
