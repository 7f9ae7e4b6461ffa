/-
  The contract of the document's Same.
-/
import Derived.Test.YtfcaebceklhbkaaDoorEarliest
namespace Go.Proofs.YtfcaebceklhbkaaDoor
open Go.RowKit
set_option linter.unusedVariables false

theorem own_below {w w' : World} {N e k n : Nat} {v : Value} {xs : List Value} (h : w.ownsRow N e k v n xs) (hb : Below w.heap.size w w') : w'.ownsRow N e k v n xs := by
  refine ⟨h.1, ?_⟩
  rcases h.2 with hn | ⟨g, cap, cur, rfl, h1, h2, h3⟩
  · exact .inl hn
  · exact .inr ⟨g, cap, cur, rfl, h1, (hb.block g (Array.getElem?_eq_some_iff.1 h2).1).trans h2, h3⟩
theorem RSt.after {w0 wr w2 : World} {N e5 : Nat} {l : List Flt} {v : Value} (h : RSt w0 N e5 l v wr) (hb : Below wr.heap.size wr w2) : RSt w0 N e5 l v w2 :=
  ⟨own_below h.row hb, h.low.trans (hb.mono h.nw), Nat.le_trans h.nw hb.size⟩

set_option maxRecDepth 100000 in
set_option maxHeartbeats 600000000000 in
theorem refSame_walk (ro : Option Addr) (nr c : Nat) (A : Nat → Option Addr) (C : Nat → Nat) (R : Nat → List Seen4) (w : World) (h : Readers w ro nr A C R) (hnr : nr ≤ 300000000000) (htot : tot R nr ≤ 300000000000) :
    Calls Tryd.prog 31 #[.slice ro nr c] w (DoneF 107 (samAt R nr) w) := by
  obtain ⟨i0, hi0, hz0, hz1, hz2⟩ := info_parts info107
  have H0 := Lib.hid h
  have hlen0 : ∀ r, r < nr → (R r).length ≤ 300000000000 := fun r hr => by
    have := tot_le R (show r + 1 ≤ nr by omega)
    simp only [tot] at this
    omega
  have HLN := Lib.hid hlen0
  have HTT := Lib.hid htot
  clear h hlen0 htot
  have HST0 : Hid (RSt w w.heap.size 107 [] (.slice none 0 0) w) := ⟨World.ownsRow_nil _ _ _ _, Below.refl _ _, Nat.le_refl _⟩
  generalize hN : w.heap.size = N at *
  have HN := Lib.hid hN
  clear hN
  go_enter Tryd.func31, Tryd.ntmps31
  go_wp2_with fail
  go_loopw [3, 4] (fun v rv wr => ∃ r : Nat, r ≤ nr ∧ rv = .int .i64 r ∧ RSt w N 107 (samAt R r) v wr) (fun _ rv _ => nr - (intOf rv).toNat)
  case atStart => exact ⟨0, by omega, rfl, HST0.out⟩
  case round =>
    obtain ⟨r, hr, rfl, hR⟩ := hrel
    have HR := Lib.hid hR
    clear hR
    by_cases hlt : r < nr
    · have HSL := Lib.hid (samAt_length R r)
      have HT1 := Lib.hid (tot_le R (show r + 1 ≤ nr by omega))
      have hl := HLN.out r hlt
      have HLn : Hid ((R r).length = (R r).length) := rfl
      have HSM : Hid (samAt R (r + 1) = samAt R r ++ inT R r (R r).length) := rfl
      generalize hLn : (R r).length = ln at *
      have HLN2 := Lib.hid hLn
      clear HLn hLn
      have HR1 : Hid (RSt w N 107 (samAt R r ++ inT R r 0) u3 wr) := by have := HR.out; rw [show inT R r 0 = [] from rfl, List.append_nil]; exact this
      clear HR
      go_wp2_with fail
      go_loopw [3, 5] (fun v iv wq => ∃ i : Nat, i ≤ ln ∧ iv = .int .i64 i ∧ RSt w N 107 (samAt R r ++ inT R r i) v wq) (fun _ iv _ => ln - (intOf iv).toNat)
      case atStart => exact ⟨0, by omega, rfl, HR1.out⟩
      case round =>
        obtain ⟨i, hi, rfl, hR⟩ := hrel
        have HR := Lib.hid hR
        clear hR
        have hrd := H0.out.below (HR.out.low.mono (by have := HN.out; omega))
        have HRD := Lib.hid hrd
        obtain ⟨g, o, rfl, hc⟩ : ∃ g o, ro = some ⟨g, o, none⟩ ∧ wr.cell? ⟨g, o + r, none⟩ = some (.slice (A r) (R r).length (C r)) := by
          rcases hrd.1 with h | ⟨g, o, h1, h2⟩
          · omega
          · exact ⟨g, o, h1, h2 r hlt⟩
        have HS := Lib.hid (hrd.2 r hlt).1
        rw [hid_eq HLN2] at hc
        have hlen : (samAt R r ++ inT R r i).length ≤ 300000000000 := by
          have h1 := HSL.out
          have h2 := inT_length R r i
          have h3 := HT1.out
          have h4 := HTT.out
          have h5 := HLN2.out
          simp only [tot, List.length_append] at *
          omega
        clear hrd
        generalize A r = ar at *
        generalize C r = cr at *
        by_cases hil : i < ln
        · obtain ⟨g2, o2, rfl, hc2⟩ : ∃ g o, ar = some ⟨g, o, none⟩ ∧ ∀ i, i < ln → wr.cell? ⟨g, o + i * 4, none⟩ = some (.int .i64 ((R r).getD i default).q) ∧ wr.cell? ⟨g, o + i * 4 + 1, none⟩ = some (.int .i64 ((R r).getD i default).a) ∧
              wr.cell? ⟨g, o + i * 4 + 2, none⟩ = some (.int .i64 ((R r).getD i default).b) ∧ wr.cell? ⟨g, o + i * 4 + 3, none⟩ = some (.int .i64 ((R r).getD i default).d) := by
            rcases HS.out with h | ⟨g, o, h1, h2⟩
            · have := HLN2.out; rw [h] at this; simp at this; omega
            · exact ⟨g, o, h1, by rw [← HLN2.out]; exact h2⟩
          obtain ⟨d1, d2, d3, d4⟩ := hc2 i hil
          clear hc2
          obtain ⟨⟨r0, s0⟩, her, htl⟩ := tell_ref (R := R) (r := r) (i := i) (nr := nr) (by rw [HLN2.out]; exact hil) hlt
          have HIN : Hid (inT R r (i + 1) = inT R r i ++ tell (cur R ((R r).getD i default).q r i) r i ((R r).getD i default)) := rfl
          rw [← htl] at HIN
          have HTL : Hid (tell (some (r0, s0)) r i ((R r).getD i default) = if eqItem s0.a s0.b s0.d ((R r).getD i default).a ((R r).getD i default).b ((R r).getD i default).d = true then [] else [⟨4, r, i, ((R r).getD i default).q, r0⟩]) := rfl
          clear htl
          have hne := neq_item s0.a s0.b s0.d ((R r).getD i default).a ((R r).getD i default).b ((R r).getD i default).d
          have HCE := Lib.hid (fun W h1 => earliest_walk (some ⟨g, o, none⟩) nr c A C R ((R r).getD i default).q r0 s0 W h1 hnr HLN.out her)
          clear her
          generalize (R r).getD i default = s at *
          obtain ⟨q, a, b, d⟩ := s
          obtain ⟨q0, a0, b0, d0⟩ := s0
          simp only at d1 d2 d3 d4 hne HCE HTL
          have HRA := Lib.hid (HR.out.alloc (.cells #[.int .i64 q, .int .i64 a, .int .i64 b, .int .i64 d] 75))
          have HRDA := Lib.hid (HRD.out.below ((Below.refl _ _).alloc (Nat.le_refl _) (.cells #[.int .i64 q, .int .i64 a, .int .i64 b, .int .i64 d] 75)))
          go_wp2_with fail
          refine (HCE.out _ HRDA.out).mono ?_
          rintro e w2 ⟨rfl, hb2⟩
          have HR2 := Lib.hid ((HRA.out.after hb2).alloc (.cells #[.int .i64 a0, .int .i64 b0, .int .i64 d0] 73))
          have hbx : (w2.alloc (.cells #[.int .i64 a0, .int .i64 b0, .int .i64 d0] 73)).heap[wr.heap.size]? = some (.cells #[.int .i64 q, .int .i64 a, .int .i64 b, .int .i64 d] 75 (0, 0)) := by
            have h1 : w2.heap[wr.heap.size]? = some (.cells #[.int .i64 q, .int .i64 a, .int .i64 b, .int .i64 d] 75 (0, 0)) := (hb2.block _ (by simp)).trans (heap_alloc_new wr _)
            rw [Below.heap_alloc _ _ _ (Array.getElem?_eq_some_iff.1 h1).1]
            exact h1
          have x0 : (w2.alloc (.cells #[.int .i64 a0, .int .i64 b0, .int .i64 d0] 73)).cell? ⟨wr.heap.size, 0, none⟩ = some (.int .i64 q) := by rw [cell_of hbx]; rfl
          have x1 : (w2.alloc (.cells #[.int .i64 a0, .int .i64 b0, .int .i64 d0] 73)).cell? ⟨wr.heap.size, 1, none⟩ = some (.int .i64 a) := by rw [cell_of hbx]; rfl
          have x2 : (w2.alloc (.cells #[.int .i64 a0, .int .i64 b0, .int .i64 d0] 73)).cell? ⟨wr.heap.size, 2, none⟩ = some (.int .i64 b) := by rw [cell_of hbx]; rfl
          have x3 : (w2.alloc (.cells #[.int .i64 a0, .int .i64 b0, .int .i64 d0] 73)).cell? ⟨wr.heap.size, 3, none⟩ = some (.int .i64 d) := by rw [cell_of hbx]; rfl
          clear hb2 hbx HCE HRDA HRA
          cases hbb : eqItem a0 b0 d0 a b d with
          | true =>
            rw [hbb] at hne
            have HI2 := Lib.hid (show inT R r (i + 1) = inT R r i from by rw [hid_eq HIN, hid_eq HTL, hbb]; simp)
            clear HIN HTL hbb
            go_wp2_with fail
            go_roundw
            case rel => exact ⟨i + 1, by omega, by go_num, by rw [HI2.out]; exact HR2.out⟩
            case measure => simp [intOf]; omega
          | false =>
            rw [hbb] at hne
            have HI2 := Lib.hid (show samAt R r ++ inT R r (i + 1) = (samAt R r ++ inT R r i) ++ [⟨4, r, i, q, r0⟩] from by rw [hid_eq HIN, hid_eq HTL, hbb]; simp)
            clear HIN HTL hbb
            generalize samAt R r ++ inT R r i = l at *
            have HSX := Lib.hid (src_one w2 (.cells #[.int .i64 a0, .int .i64 b0, .int .i64 d0] 73) (Flt.cells ⟨4, r, i, q, r0⟩).toArray 107 5 rfl (flt_one _))
            have HOW := Lib.hid (HR2.out.row.alloc (.cells (Flt.cells ⟨4, r, i, q, r0⟩).toArray 107))
            have HAP := Lib.hid (fun v' w' ha => HR2.out.app (o := .cells (Flt.cells ⟨4, r, i, q, r0⟩).toArray 107) (x := ⟨4, r, i, q, r0⟩) (v' := v') (w1 := w') ha)
            have hNW : N ≤ w2.heap.size + 1 := by have := HR2.out.nw; simp at this; exact this
            go_wp2_with (at_builtin; go_must (refine wpList_append_row rfl (.tmp 42) (.tmp 49) 60 rfl N 107 i0 _ 5 40 Tryd.underlying60 hi0 hz0 hz1 (by decide) hz2 rfl u3 l.length (fcells l) rfl HOW.out 1 (Flt.cells ⟨4, r, i, q, r0⟩) HSX.out ?l2 ?b2 ?n2 ?_); go_must (case l2 => (unfold maxLen; omega)); go_must (case b2 => omega); go_must (case n2 => (simp; omega)); intro v' w' ha; have HA := Lib.hid (HAP.out _ _ ha); clear ha)
            go_roundw
            case rel => exact ⟨i + 1, by omega, by go_num, by rw [HI2.out]; exact HA.out⟩
            case measure => simp [intOf]; omega
        · obtain rfl : i = ln := by omega
          go_wp2_with fail
          go_roundw
          case rel => exact ⟨r + 1, by omega, by go_num, by rw [HSM.out]; exact HR.out⟩
          case measure => simp [intOf]; omega
    · obtain rfl : r = nr := by omega
      go_wp2_with fail
      go_ret
      exact ⟨_, rfl, by rw [HN.out]; exact HR.out.row, by rw [HN.out]; exact HR.out.low⟩
end Go.Proofs.YtfcaebceklhbkaaDoor
