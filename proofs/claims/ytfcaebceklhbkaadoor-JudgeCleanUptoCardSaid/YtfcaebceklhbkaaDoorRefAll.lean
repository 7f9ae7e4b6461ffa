/-
  The contract of the document's All.
-/
import Derived.Test.YtfcaebceklhbkaaDoorAll
import Derived.Test.YtfcaebceklhbkaaDoorRefRun
import Derived.StillTailTactics
namespace Go.Proofs.YtfcaebceklhbkaaDoor
open Go.RowKit
set_option linter.unusedVariables false

set_option maxRecDepth 100000 in
set_option maxHeartbeats 1200000000000 in
theorem refAll_walk (ro : Option Addr) (nr c : Nat) (A : Nat → Option Addr) (C : Nat → Nat) (R : Nat → List Seen4) (io : Option Addr) (ni ci : Nat) (T : List Itm) (w : World) (h : Readers w ro nr A C R) (hnr : nr ≤ 300000000000) (htot : tot R nr ≤ 300000000000)
    (h1 : ItemRow w io T) (hst : Small3 T) (hTn : T.length = ni) (hni : ni ≤ 300000000000) :
    Calls Tryd.prog 33 #[.slice ro nr c, .slice io ni ci] w (DoneF 107 (allF R nr T) w) := by
  obtain ⟨i0, hi0, hz0, hz1, hz2⟩ := info_parts info107
  have H0 := Lib.hid h
  have H1 := Lib.hid h1
  have HTn := Lib.hid hTn
  have HST := Lib.hid hst
  have hlen0 : ∀ r, r < nr → (R r).length ≤ 300000000000 := fun r hr => by
    have := tot_le R (show r + 1 ≤ nr by omega)
    simp only [tot] at this
    omega
  have HLN := Lib.hid hlen0
  have HTT := Lib.hid htot
  have HSAME := Lib.hid (fun W h => refSame_walk ro nr c A C R W h hnr htot)
  have HSL := Lib.hid (samAt_length R nr)
  clear h hlen0 htot h1 hTn hst
  have HST0 : Hid (RSt w w.heap.size 107 [] (.slice none 0 0) w) := ⟨World.ownsRow_nil _ _ _ _, Below.refl _ _, Nat.le_refl _⟩
  generalize hN : w.heap.size = N at *
  have HN := Lib.hid hN
  clear hN
  go_enter Tryd.func33, Tryd.ntmps33
  go_wp2_with fail
  go_loopw [5, 6] (fun v rv wr => ∃ r : Nat, r ≤ nr ∧ rv = .int .i64 r ∧ RSt w N 107 (allAt R T r) v wr) (fun _ rv _ => nr - (intOf rv).toNat)
  case atStart => exact ⟨0, by omega, rfl, HST0.out⟩
  case round =>
    obtain ⟨r, hr, rfl, hR⟩ := hrel
    have HR := Lib.hid hR
    clear hR
    by_cases hlt : r < nr
    · have hrd := H0.out.below (HR.out.low.mono (by have := HN.out; omega))
      have HIR := Lib.hid (H1.out.below (HR.out.low.mono (by have := HN.out; omega)))
      obtain ⟨g, o, rfl, hc⟩ : ∃ g o, ro = some ⟨g, o, none⟩ ∧ wr.cell? ⟨g, o + r, none⟩ = some (.slice (A r) (R r).length (C r)) := by
        rcases hrd.1 with h | ⟨g, o, h1, h2⟩
        · omega
        · exact ⟨g, o, h1, h2 r hlt⟩
      have HSR := Lib.hid (hrd.2 r hlt)
      clear hrd
      have hl := HLN.out r hlt
      have HAL := Lib.hid (allAt_length R T r)
      have HOL := Lib.hid (ownF_length (R r) T)
      have HT1 := Lib.hid (tot_le R (show r + 1 ≤ nr by omega))
      have HTS : Hid (tot R (r + 1) = tot R r + (R r).length) := rfl
      have HAA : Hid (allAt R T (r + 1) = allAt R T r ++ (ownF (R r) T).map fun f => f.by r) := rfl
      generalize hLn : (R r).length = ln at *
      have HLN2 := Lib.hid hLn
      clear hLn
      generalize A r = ar at *
      generalize C r = cr at *
      -- the reader's own faults, in a row of the round's own
      have HRUN : Hid (0 < ln → ∃ g2 o2, ar = some ⟨g2, o2, none⟩ ∧ wr.cell? ⟨g2, o2, none⟩ = some (.int .i64 ((R r).getD 0 default).q)) := by
        intro h0
        rcases HSR.out.1 with h | ⟨g2, o2, h1, h2⟩
        · have := HLN2.out; rw [h] at this; simp at this; omega
        · exact ⟨g2, o2, h1, by have := (h2 0 (by rw [HLN2.out]; exact h0)).1; simpa using this⟩
      have H24 := Lib.hid (refRun_walk ar ln cr (R r) ((R r).getD 0 default).q wr HSR.out.1 HLN2.out hl)
      have H26 := Lib.hid (fun W h => refWriters_walk ar ln cr (R r) W h HLN2.out hl)
      have H28 := Lib.hid (fun W h h' => refWritten_walk ar ln cr (R r) io ni ci T W h HLN2.out hl h' HTn.out hni)
      by_cases h0 : 0 < ln
      · obtain ⟨g2, o2, rfl, hq⟩ := HRUN.out h0
        clear HRUN
        generalize hqq : ((R r).getD 0 default).q = q at *
        have HQQ := Lib.hid hqq
        clear hqq
        go_wp2_with fail
        have H24D : Hid (Calls Tryd.prog 25 #[.slice (some ⟨g2, o2, none⟩) ln cr, .int .i64 q] wr.drew (DoneF 107 (runF (R r) q) wr.drew)) := refRun_walk (some ⟨g2, o2, none⟩) ln cr (R r) q wr.drew HSR.out.1 HLN2.out hl
        go_still_tail 11, (by kernel_rfl)
        change wpList _ _ _ _ _ wr.drew
        go_wp2_with (go_at_call 25; refine H24D.out.mono ?_; rintro e w2 ⟨v8, rfl, hr8, hb2⟩; have HB2 : Hid (Below wr.heap.size wr w2) := ⟨hb2.os, hb2.tape, hb2.output, hb2.size, hb2.block⟩; have hcell2 : w2.cell? ⟨g, o + r, none⟩ = some (.slice (some ⟨g2, o2, none⟩) ln cr) := (HB2.out.cell (p := ⟨g, o + r, none⟩) (World.block_lt_of_cell? wr _ hc)).trans hc; have HR8 : Hid (w2.ownsRow wr.heap.size 107 5 v8 (runF (R r) q).length (fcells (runF (R r) q))) := hr8; clear hr8 hb2)
        clear H24 H24D hq
        have h8 : (runF (R r) q).length ≤ 300000000000 := by have := runAt_length (R r) q (R r).length; have h5 := HLN2.out; unfold runF; omega
        refine (H26.out w2 (HSR.out.1.below HB2.out)).mono ?_
        rintro e w3 ⟨v29, rfl, hr29, hb3⟩
        have HS2 := HB2.out.size
        have HR8b := Lib.hid (own_below HR8.out hb3)
        have HS29 := Lib.hid (flt_src hr29)
        have HB3 := Lib.hid (HB2.out.trans (hb3.mono HS2))
        have hs3 := HB3.out.size
        have h26 : (writF (R r)).length ≤ 300000000000 := by have := writAt_length (R r) (R r).length; have h5 := HLN2.out; unfold writF; omega
        have h28 : (wrtF (R r) T).length ≤ 300000000000 := by have := wrtAt_length (R r) T (R r).length; have h5 := HLN2.out; unfold wrtF; omega
        have HOW : Hid (ownF (R r) T = runF (R r) q ++ writF (R r) ++ wrtF (R r) T) := by unfold ownF; rw [hid_eq HQQ]; exact rfl
        generalize runF (R r) q = l8 at *
        generalize writF (R r) = l26 at *
        generalize wrtF (R r) T = l28 at *
        clear hr29 hb3 H26 HS2
        go_wp2_with (at_builtin; go_must (refine wpList_append_row rfl (.tmp 42) (.tmp 43) 60 rfl wr.heap.size 107 i0 _ 5 40 Tryd.underlying60 hi0 hz0 hz1 (by decide) hz2 rfl v8 l8.length (fcells l8) rfl HR8b.out l26.length (fcells l26) HS29.out ?l2 ?b2 ?n2 ?_); go_must (case l2 => (unfold maxLen; omega)); go_must (case b2 => omega); go_must (case n2 => omega); intro v30 w4 ha; go_must (obtain ⟨hj1, hj2, hj3⟩ := row_join HR8b.out hs3 ha); have HJ1 := Lib.hid hj1; have HJ2 := Lib.hid (HB3.out.trans hj2); have hcell4 := (HJ2.out.cell (p := ⟨g, o + r, none⟩) (World.block_lt_of_cell? wr _ hc)).trans hc; clear hj1 hj2 ha)
        refine (H28.out w4 (HSR.out.1.below HJ2.out) (HIR.out.below HJ2.out)).mono ?_
        rintro e w5 ⟨v33, rfl, hr33, hb5⟩
        have HR30 := Lib.hid (own_below HJ1.out hb5)
        have HS33 := Lib.hid (flt_src hr33)
        have HB5 := Lib.hid (HJ2.out.trans (hb5.mono hj3))
        have hs5 := HB5.out.size
        have hl2 : (l8 ++ l26).length ≤ 600000000000 := by rw [List.length_append]; omega
        generalize l8 ++ l26 = l9 at *
        clear hr33 hb5 H28 HR8b HS29
        go_wp2_with (at_builtin; go_must (refine wpList_append_row rfl (.tmp 51) (.tmp 52) 60 rfl wr.heap.size 107 i0 _ 5 40 Tryd.underlying60 hi0 hz0 hz1 (by decide) hz2 rfl v30 l9.length (fcells l9) rfl HR30.out l28.length (fcells l28) HS33.out ?l2 ?b2 ?n2 ?_); go_must (case l2 => (unfold maxLen; omega)); go_must (case b2 => omega); go_must (case n2 => omega); intro v34 w6 ha; go_must (obtain ⟨hk1, hk2, hk3⟩ := row_join HR30.out hs5 ha); go_must (rw [← hid_eq HOW] at hk1); go_must (obtain ⟨a34, c34, rfl, hfl⟩ := own_flt hk1); have HFL := Lib.hid hfl; have HAS := Lib.hid (ASt.start HR.out hk1 (HB5.out.trans hk2)); clear hk1 hk2 ha hfl)
        have HMM : Hid (ownF (R r) T = ownF (R r) T) := rfl
        generalize hm : ownF (R r) T = m at *
        clear HMM hm
        generalize hml : m.length = ml at *
        have HML := Lib.hid hml
        clear hml
        have hmb : ml ≤ 3 * ln := HOL.out
        have HAS0 : Hid (ASt w N 107 (allAt R T r ++ (m.take 0).map fun f => f.by r) m (.slice a34 ml c34) u5 w6) := by
          have := HAS.out
          rw [List.take_zero, List.map_nil, List.append_nil]
          exact this
        clear HFL HAS
        go_loopw [5, 10] (fun v kv wq => ∃ k : Nat, k ≤ ml ∧ kv = .int .i64 k ∧ ASt w N 107 (allAt R T r ++ (m.take k).map fun f => f.by r) m (.slice a34 ml c34) v wq) (fun _ kv _ => ml - (intOf kv).toNat)
        case atStart => exact ⟨0, by omega, rfl, HAS0.out⟩
        case round =>
          obtain ⟨k, hk, rfl, hA⟩ := hrel
          generalize wr = wq at *
          have HA := Lib.hid hA
          have hown := hA.own
          clear hA
          have hlen : (allAt R T r ++ (m.take k).map fun f => f.by r).length ≤ 1800000000000 := by
            have h1 := HAL.out
            have h3 := HT1.out
            have h4 := HTT.out
            have h5 := HTS.out
            simp only [List.length_append, List.length_map, List.length_take]
            omega
          obtain ⟨ao, cc, he, hfl⟩ := own_flt hown
          have hao : a34 = ao := (Value.slice.inj he).1
          subst hao
          clear he hown
          by_cases hkl : k < ml
          · obtain ⟨g3, o3, rfl, hc3⟩ : ∃ g o, a34 = some ⟨g, o, none⟩ ∧ wq.cell? ⟨g, o + k * 5, none⟩ = some (.int .i64 (m.getD k default).k) ∧ wq.cell? ⟨g, o + k * 5 + 1, none⟩ = some (.int .i64 (m.getD k default).r) ∧
                wq.cell? ⟨g, o + k * 5 + 2, none⟩ = some (.int .i64 (m.getD k default).i) ∧ wq.cell? ⟨g, o + k * 5 + 3, none⟩ = some (.int .i64 (m.getD k default).q) ∧ wq.cell? ⟨g, o + k * 5 + 4, none⟩ = some (.int .i64 (m.getD k default).w) := by
              rcases hfl with h | ⟨g, o, h1, h2⟩
              · have := HML.out; rw [h] at this; simp at this; omega
              · exact ⟨g, o, h1, h2 k (by rw [HML.out]; exact hkl)⟩
            obtain ⟨f1, f2, f3, f4, f5⟩ := hc3
            clear hfl
            have HTK := Lib.hid (take_map_succ m r k (by rw [HML.out]; exact hkl))
            have HL2 := Lib.hid (show allAt R T r ++ (m.take (k + 1)).map (fun f => f.by r) = (allAt R T r ++ (m.take k).map fun f => f.by r) ++ [(m.getD k default).by r] from by rw [hid_eq HTK, List.append_assoc])
            clear HTK
            generalize m.getD k default = f at *
            obtain ⟨fk, fr, fi, fq, fw⟩ := f
            simp only at f1 f2 f3 f4 f5
            have HL3 : Hid (allAt R T r ++ (m.take (k + 1)).map (fun f => f.by r) = (allAt R T r ++ (m.take k).map fun f => f.by r) ++ [⟨fk, r, fi, fq, fw⟩]) := HL2.out
            clear HL2
            generalize (allAt R T r ++ (m.take k).map fun f => f.by r) = l at *
            have HA2 := Lib.hid (HA.out.alloc (.cells (Flt.cells ⟨fk, r, fi, fq, fw⟩).toArray 107))
            have HSX := Lib.hid (src_one wq (.cells (Flt.cells ⟨fk, r, fi, fq, fw⟩).toArray 107) (Flt.cells ⟨fk, r, fi, fq, fw⟩).toArray 107 5 rfl (flt_one _))
            have HOW := Lib.hid (HA2.out.row.alloc (.cells (Flt.cells ⟨fk, r, fi, fq, fw⟩).toArray 107))
            have HAP := Lib.hid (fun v' w' ha => HA2.out.app (o := .cells (Flt.cells ⟨fk, r, fi, fq, fw⟩).toArray 107) (x := ⟨fk, r, fi, fq, fw⟩) (v' := v') (w1 := w') ha)
            have hNW := HA.out.nw
            go_wp2_with (at_builtin; go_must (refine wpList_append_row rfl (.tmp 66) (.tmp 68) 60 rfl N 107 i0 _ 5 40 Tryd.underlying60 hi0 hz0 hz1 (by decide) hz2 rfl u5 l.length (fcells l) rfl HOW.out 1 (Flt.cells ⟨fk, r, fi, fq, fw⟩) HSX.out ?l2 ?b2 ?n2 ?_); go_must (case l2 => (unfold maxLen; omega)); go_must (case b2 => omega); go_must (case n2 => (simp; omega)); intro v' w' ha; have HAA2 := Lib.hid (HAP.out _ _ ha); clear ha)
            go_roundw
            case rel => exact ⟨k + 1, by omega, by go_num, by rw [HL3.out]; exact HAA2.out⟩
            case measure => simp [intOf]; omega
          · obtain rfl : k = ml := by omega
            have HFIN : Hid (RSt w N 107 (allAt R T (r + 1)) u5 wq) := by
              have h := HA.out.rst
              rw [List.take_of_length_le (by rw [HML.out]; exact Nat.le_refl _), ← hid_eq HAA] at h
              exact h
            go_wp2_with fail
            go_roundw
            case rel => exact ⟨r + 1, by omega, by go_num, HFIN.out⟩
            case measure => simp [intOf]; omega
      · have HR8 : Hid (wr.ownsRow wr.heap.size 107 5 (.slice none 0 0) ([] : List Flt).length (fcells [])) := World.ownsRow_nil _ _ _ _
        have HB2 : Hid (Below wr.heap.size wr wr) := Below.refl _ _
        have h8 : ([] : List Flt).length ≤ 300000000000 := by simp
        have hnil : R r = [] := List.eq_nil_of_length_eq_zero (by rw [HLN2.out]; omega)
        have HNIL := Lib.hid hnil
        clear hnil HRUN H24
        go_wp2_with fail
        refine (H26.out wr HSR.out.1).mono ?_
        rintro e w3 ⟨v29, rfl, hr29, hb3⟩
        have HS2 := HB2.out.size
        have HR8b := Lib.hid (own_below HR8.out hb3)
        have HS29 := Lib.hid (flt_src hr29)
        have HB3 := Lib.hid (HB2.out.trans (hb3.mono HS2))
        have hs3 := HB3.out.size
        have h26 : (writF (R r)).length ≤ 300000000000 := by have := writAt_length (R r) (R r).length; have h5 := HLN2.out; unfold writF; omega
        have h28 : (wrtF (R r) T).length ≤ 300000000000 := by have := wrtAt_length (R r) T (R r).length; have h5 := HLN2.out; unfold wrtF; omega
        have HOW : Hid (ownF (R r) T = ([] : List Flt) ++ writF (R r) ++ wrtF (R r) T) := by unfold ownF; rw [hid_eq HNIL]; rfl
        generalize ([] : List Flt) = l8 at *
        generalize writF (R r) = l26 at *
        generalize wrtF (R r) T = l28 at *
        clear hr29 hb3 H26 HS2
        go_wp2_with (at_builtin; go_must (refine wpList_append_row rfl (.tmp 42) (.tmp 43) 60 rfl wr.heap.size 107 i0 _ 5 40 Tryd.underlying60 hi0 hz0 hz1 (by decide) hz2 rfl (.slice none 0 0) l8.length (fcells l8) rfl HR8b.out l26.length (fcells l26) HS29.out ?l2 ?b2 ?n2 ?_); go_must (case l2 => (unfold maxLen; omega)); go_must (case b2 => omega); go_must (case n2 => omega); intro v30 w4 ha; go_must (obtain ⟨hj1, hj2, hj3⟩ := row_join HR8b.out hs3 ha); have HJ1 := Lib.hid hj1; have HJ2 := Lib.hid (HB3.out.trans hj2); have hcell4 := (HJ2.out.cell (p := ⟨g, o + r, none⟩) (World.block_lt_of_cell? wr _ hc)).trans hc; clear hj1 hj2 ha)
        refine (H28.out w4 (HSR.out.1.below HJ2.out) (HIR.out.below HJ2.out)).mono ?_
        rintro e w5 ⟨v33, rfl, hr33, hb5⟩
        have HR30 := Lib.hid (own_below HJ1.out hb5)
        have HS33 := Lib.hid (flt_src hr33)
        have HB5 := Lib.hid (HJ2.out.trans (hb5.mono hj3))
        have hs5 := HB5.out.size
        have hl2 : (l8 ++ l26).length ≤ 600000000000 := by rw [List.length_append]; omega
        generalize l8 ++ l26 = l9 at *
        clear hr33 hb5 H28 HR8b HS29
        go_wp2_with (at_builtin; go_must (refine wpList_append_row rfl (.tmp 51) (.tmp 52) 60 rfl wr.heap.size 107 i0 _ 5 40 Tryd.underlying60 hi0 hz0 hz1 (by decide) hz2 rfl v30 l9.length (fcells l9) rfl HR30.out l28.length (fcells l28) HS33.out ?l2 ?b2 ?n2 ?_); go_must (case l2 => (unfold maxLen; omega)); go_must (case b2 => omega); go_must (case n2 => omega); intro v34 w6 ha; go_must (obtain ⟨hk1, hk2, hk3⟩ := row_join HR30.out hs5 ha); go_must (rw [← hid_eq HOW] at hk1); go_must (obtain ⟨a34, c34, rfl, hfl⟩ := own_flt hk1); have HFL := Lib.hid hfl; have HAS := Lib.hid (ASt.start HR.out hk1 (HB5.out.trans hk2)); clear hk1 hk2 ha hfl)
        have HMM : Hid (ownF (R r) T = ownF (R r) T) := rfl
        generalize hm : ownF (R r) T = m at *
        clear HMM hm
        generalize hml : m.length = ml at *
        have HML := Lib.hid hml
        clear hml
        have hmb : ml ≤ 3 * ln := HOL.out
        have HAS0 : Hid (ASt w N 107 (allAt R T r ++ (m.take 0).map fun f => f.by r) m (.slice a34 ml c34) u5 w6) := by
          have := HAS.out
          rw [List.take_zero, List.map_nil, List.append_nil]
          exact this
        clear HFL HAS
        go_loopw [5, 10] (fun v kv wq => ∃ k : Nat, k ≤ ml ∧ kv = .int .i64 k ∧ ASt w N 107 (allAt R T r ++ (m.take k).map fun f => f.by r) m (.slice a34 ml c34) v wq) (fun _ kv _ => ml - (intOf kv).toNat)
        case atStart => exact ⟨0, by omega, rfl, HAS0.out⟩
        case round =>
          obtain ⟨k, hk, rfl, hA⟩ := hrel
          generalize wr = wq at *
          have HA := Lib.hid hA
          have hown := hA.own
          clear hA
          have hlen : (allAt R T r ++ (m.take k).map fun f => f.by r).length ≤ 1800000000000 := by
            have h1 := HAL.out
            have h3 := HT1.out
            have h4 := HTT.out
            have h5 := HTS.out
            simp only [List.length_append, List.length_map, List.length_take]
            omega
          obtain ⟨ao, cc, he, hfl⟩ := own_flt hown
          have hao : a34 = ao := (Value.slice.inj he).1
          subst hao
          clear he hown
          by_cases hkl : k < ml
          · exfalso; omega
          · obtain rfl : k = ml := by omega
            have HFIN : Hid (RSt w N 107 (allAt R T (r + 1)) u5 wq) := by
              have h := HA.out.rst
              rw [List.take_of_length_le (by rw [HML.out]; exact Nat.le_refl _), ← hid_eq HAA] at h
              exact h
            go_wp2_with fail
            go_roundw
            case rel => exact ⟨r + 1, by omega, by go_num, HFIN.out⟩
            case measure => simp [intOf]; omega
    · obtain rfl : r = nr := by omega
      have hsl : (samAt R r).length ≤ 300000000000 := by have := HSL.out; have := HTT.out; omega
      have hal : (allAt R T r).length ≤ 900000000000 := by have := allAt_length R T r; have := HTT.out; omega
      have HSM := Lib.hid (HSAME.out wr (H0.out.below (HR.out.low.mono (by have := HN.out; omega))))
      go_wp2_with fail
      refine HSM.out.mono ?_
      rintro e w2 ⟨v2, rfl, hr2, hb2⟩
      have HR2 := Lib.hid (HR.out.after hb2)
      have HS2 := Lib.hid (flt_src hr2)
      have hn2 := HR2.out.nw
      clear hr2 hb2
      have HALL : Hid (allF R r T = allAt R T r ++ samAt R r) := rfl
      generalize allAt R T r = l at *
      generalize samAt R r = m at *
      go_wp2_with (at_builtin; go_must (refine wpList_append_row rfl (.tmp 72) (.tmp 73) 60 rfl N 107 i0 _ 5 40 Tryd.underlying60 hi0 hz0 hz1 (by decide) hz2 rfl u5 l.length (fcells l) rfl HR2.out.row m.length (fcells m) HS2.out ?l2 ?b2 ?n2 ?_); go_must (case l2 => (unfold maxLen; omega)); go_must (case b2 => omega); go_must (case n2 => omega); intro v3 w3 ha; go_must (obtain ⟨hk1, hk2, hk3⟩ := row_join HR2.out.row hn2 ha); have HK1 := Lib.hid hk1; have HK2 := Lib.hid (HR2.out.low.trans hk2); clear hk1 hk2 ha)
      go_ret
      exact ⟨_, rfl, by rw [HALL.out, HN.out]; exact HK1.out, by rw [HN.out]; exact HK2.out⟩
end Go.Proofs.YtfcaebceklhbkaaDoor
