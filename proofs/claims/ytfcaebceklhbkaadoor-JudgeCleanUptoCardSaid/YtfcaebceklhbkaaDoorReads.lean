/-
  The law JudgeReads returns true: the walk, over what fixed answers.
-/
import Derived.Test.YtfcaebceklhbkaaDoorRefAll
namespace Go.Proofs.YtfcaebceklhbkaaDoor
open Go.RowKit
set_option linter.unusedVariables false

/-- Two lists of faults that read alike, one laid behind the other, are one. -/
theorem pair_same {wa wb : World} {Ba Bb ea eb : Nat} {va vb : Value} {l : List Flt} (ha : wa.ownsRow Ba ea 5 va l.length (fcells l)) (hb : wb.ownsRow Bb eb 5 vb l.length (fcells l)) (hab : Below wa.heap.size wa wb) (hl : l.length ≤ 600000000000) :
    Calls Tryd.prog 23 #[va, vb] wb fun e w' => e = .returned (.bool true) ∧ Below wb.heap.size wb w' := by
  obtain ⟨ao, c, rfl, h1⟩ := own_flt (own_below ha hab)
  obtain ⟨bo, d, rfl, h2⟩ := own_flt hb
  refine (same_walk ao bo l.length c d l wb h1 h2 rfl hl).mono ?_
  rintro e w' ⟨rfl, m, rfl⟩
  exact ⟨rfl, rfl, rfl, rfl, Nat.le_refl _, fun _ _ => rfl⟩
set_option maxRecDepth 100000 in
set_option maxHeartbeats 8000000 in
theorem reads_walk (ro : Option Addr) (nr c : Nat) (A : Nat → Option Addr) (C : Nat → Nat) (R : Nat → List Seen4) (io : Option Addr) (ni ci : Nat) (T : List Itm) (x : Int) (w : World) (h : Readers w ro nr A C R) (hnr : nr ≤ 1100000) (htot : tot R nr ≤ 500000)
    (h1 : ItemRow w io T) (hst : Small3 T) (hTn : T.length = ni) (hni : ni ≤ 300000000000) (hfix : Calls Tryd.prog 11 #[] w fun e w' => e = .returned (.bool true) ∧ Below w.heap.size w w') :
    Calls Tryd.prog 8 #[.slice ro nr c, .slice io ni ci, .int .i64 x] w fun e w' => e = .returned (.bool true) ∧ Below w.heap.size w w' := by
  have HFX := Lib.hid hfix
  have H0 := Lib.hid h
  have H1 := Lib.hid h1
  have HTn := Lib.hid hTn
  have HST := Lib.hid hst
  have hlen0 : ∀ r, r < nr → (R r).length ≤ 500000 := fun r hr => by
    have := tot_le R (show r + 1 ≤ nr by omega)
    simp only [tot] at this
    omega
  have HLN := Lib.hid hlen0
  have HSL := Lib.hid (Nat.le_trans (samAt_length R nr) (Nat.le_trans htot (show 500000 ≤ 600000000000 by omega)))
  have HAL : Hid ((allF R nr T).length ≤ 600000000000) := by
    have h1 := allAt_length R T nr
    have h2 := samAt_length R nr
    show (allF R nr T).length ≤ 600000000000
    unfold allF
    rw [List.length_append]
    omega
  have H30 := Lib.hid (fun W h => judgeSame_walk ro nr c A C R W h (by omega) (by omega))
  have H31 := Lib.hid (fun W h => refSame_walk ro nr c A C R W h (by omega) (by omega))
  have H32 := Lib.hid (fun W h h' => all_walk ro nr c A C R io ni ci T W h (by omega) (by omega) h' hst hTn hni)
  have H33 := Lib.hid (fun W h h' => refAll_walk ro nr c A C R io ni ci T W h (by omega) (by omega) h' hst hTn hni)
  clear h h1 hTn hst hfix hlen0
  go_enter Tryd.func8, Tryd.ntmps8
  go_wp2_with fail
  refine HFX.out.mono ?_
  rintro e w1 ⟨rfl, hb1⟩
  have HBX := Lib.hid hb1
  clear hb1
  go_wp2_with fail
  go_loopw [7] (fun rv wr => ∃ r : Nat, r ≤ nr ∧ rv = .int .i64 r ∧ Below w.heap.size w wr) (fun rv _ => nr - (intOf rv).toNat)
  case atStart => exact ⟨0, by omega, rfl, HBX.out⟩
  case round =>
    obtain ⟨r, hr, rfl, hB⟩ := hrel
    have HB0 := Lib.hid hB
    clear hB
    by_cases hlt : r < nr
    · have hrd := H0.out.below HB0.out
      obtain ⟨g, o, rfl, hc⟩ : ∃ g o, ro = some ⟨g, o, none⟩ ∧ wr.cell? ⟨g, o + r, none⟩ = some (.slice (A r) (R r).length (C r)) := by
        rcases hrd.1 with h | ⟨g, o, h1, h2⟩
        · omega
        · exact ⟨g, o, h1, h2 r hlt⟩
      have HSR := Lib.hid (H0.out.2 r hlt)
      have hl := HLN.out r hlt
      have hF1 : (runF (R r) x).length ≤ 600000000000 := by have := runAt_length (R r) x (R r).length; unfold runF; omega
      have hF2 : (writF (R r)).length ≤ 600000000000 := by have := writAt_length (R r) (R r).length; unfold writF; omega
      have hF3 : (wrtF (R r) T).length ≤ 600000000000 := by have := wrtAt_length (R r) T (R r).length; unfold wrtF; omega
      clear hrd
      generalize hLn : (R r).length = ln at *
      have HLN2 := Lib.hid hLn
      clear hLn
      generalize A r = ar at *
      generalize C r = cr at *
      go_wp2_with fail
      refine (run_walk ar ln cr (R r) x wr (HSR.out.1.below HB0.out) HLN2.out (by omega)).mono ?_
      rintro e wa1 ⟨va1, rfl, ha1, hba1⟩
      have HA1 := Lib.hid ha1
      have HBA1 := Lib.hid (HB0.out.trans (hba1.mono (HB0.out.size)))
      clear ha1 hba1
      go_wp2_with fail
      refine (refRun_walk ar ln cr (R r) x wa1 (HSR.out.1.below HBA1.out) HLN2.out (by omega)).mono ?_
      rintro e wb1 ⟨vb1, rfl, hb1, hbb1⟩
      have HS1 := Lib.hid (pair_same HA1.out hb1 hbb1 hF1)
      have HBB1 := Lib.hid (HBA1.out.trans (hbb1.mono (HBA1.out.size)))
      clear hb1 hbb1
      go_wp2_with fail
      refine HS1.out.mono ?_
      rintro e wc1 ⟨rfl, hbc1⟩
      have HB1 := Lib.hid (HBB1.out.trans (hbc1.mono (HBB1.out.size)))
      clear hbc1
      go_wp2_with fail
      refine (writers_walk ar ln cr (R r) wc1 (HSR.out.1.below HB1.out) HSR.out.2 HLN2.out (by omega)).mono ?_
      rintro e wa2 ⟨va2, rfl, ha2, hba2⟩
      have HA2 := Lib.hid ha2
      have HBA2 := Lib.hid (HB1.out.trans (hba2.mono (HB1.out.size)))
      clear ha2 hba2
      go_wp2_with fail
      refine (refWriters_walk ar ln cr (R r) wa2 (HSR.out.1.below HBA2.out) HLN2.out (by omega)).mono ?_
      rintro e wb2 ⟨vb2, rfl, hb2, hbb2⟩
      have HS2 := Lib.hid (pair_same HA2.out hb2 hbb2 hF2)
      have HBB2 := Lib.hid (HBA2.out.trans (hbb2.mono (HBA2.out.size)))
      clear hb2 hbb2
      go_wp2_with fail
      refine HS2.out.mono ?_
      rintro e wc2 ⟨rfl, hbc2⟩
      have HB2 := Lib.hid (HBB2.out.trans (hbc2.mono (HBB2.out.size)))
      clear hbc2
      go_wp2_with fail
      refine (written_walk ar ln cr (R r) io ni ci T wc2 (HSR.out.1.below HB2.out) HSR.out.2 HLN2.out (by omega) (H1.out.below HB2.out) HST.out HTn.out hni).mono ?_
      rintro e wa3 ⟨va3, rfl, ha3, hba3⟩
      have HA3 := Lib.hid ha3
      have HBA3 := Lib.hid (HB2.out.trans (hba3.mono (HB2.out.size)))
      clear ha3 hba3
      go_wp2_with fail
      refine (refWritten_walk ar ln cr (R r) io ni ci T wa3 (HSR.out.1.below HBA3.out) HLN2.out (by omega) (H1.out.below HBA3.out) HTn.out hni).mono ?_
      rintro e wb3 ⟨vb3, rfl, hb3, hbb3⟩
      have HS3 := Lib.hid (pair_same HA3.out hb3 hbb3 hF3)
      have HBB3 := Lib.hid (HBA3.out.trans (hbb3.mono (HBA3.out.size)))
      clear hb3 hbb3
      go_wp2_with fail
      refine HS3.out.mono ?_
      rintro e wc3 ⟨rfl, hbc3⟩
      have HB3 := Lib.hid (HBB3.out.trans (hbc3.mono (HBB3.out.size)))
      clear hbc3
      go_wp2_with fail
      go_roundw
      case rel => exact ⟨r + 1, by omega, by go_num, HB3.out⟩
      case measure => simp [intOf]; omega
    · obtain rfl : r = nr := by omega
      go_wp2_with fail
      refine (H30.out wr (H0.out.below HB0.out)).mono ?_
      rintro e wa1 ⟨va1, rfl, ha1, hba1⟩
      have HA1 := Lib.hid ha1
      have HBA1 := Lib.hid (HB0.out.trans (hba1.mono (HB0.out.size)))
      clear ha1 hba1
      go_wp2_with fail
      refine (H31.out wa1 (H0.out.below HBA1.out)).mono ?_
      rintro e wb1 ⟨vb1, rfl, hb1, hbb1⟩
      have HS1 := Lib.hid (pair_same HA1.out hb1 hbb1 HSL.out)
      have HBB1 := Lib.hid (HBA1.out.trans (hbb1.mono (HBA1.out.size)))
      clear hb1 hbb1
      go_wp2_with fail
      refine HS1.out.mono ?_
      rintro e wc1 ⟨rfl, hbc1⟩
      have HB1 := Lib.hid (HBB1.out.trans (hbc1.mono (HBB1.out.size)))
      clear hbc1
      go_wp2_with fail
      refine (H32.out wc1 (H0.out.below HB1.out) (H1.out.below HB1.out)).mono ?_
      rintro e wa2 ⟨va2, rfl, ha2, hba2⟩
      have HA2 := Lib.hid ha2
      have HBA2 := Lib.hid (HB1.out.trans (hba2.mono (HB1.out.size)))
      clear ha2 hba2
      go_wp2_with fail
      refine (H33.out wa2 (H0.out.below HBA2.out) (H1.out.below HBA2.out)).mono ?_
      rintro e wb2 ⟨vb2, rfl, hb2, hbb2⟩
      have HS2 := Lib.hid (pair_same HA2.out hb2 hbb2 HAL.out)
      have HBB2 := Lib.hid (HBA2.out.trans (hbb2.mono (HBA2.out.size)))
      clear hb2 hbb2
      go_wp2_with fail
      refine HS2.out.mono ?_
      rintro e wc2 ⟨rfl, hbc2⟩
      have HB2 := Lib.hid (HBB2.out.trans (hbc2.mono (HBB2.out.size)))
      clear hbc2
      go_wp2_with fail
      go_ret
      exact ⟨rfl, HB2.out⟩
end Go.Proofs.YtfcaebceklhbkaaDoor
