/-
  The reference's ops (f42): the lines of a thread's operations. (Printed by wip/gen/refpo.py.)
-/
import Derived.Test.YtdmhlhoimaeacaaDoorRefPS
import Derived.Test.YtdmhlhoimaeacaaDoorRefForm2
namespace Go.Proofs.YtdmhlhoimaeacaaDoor
open Go.RowKit Go.Maps
set_option linter.unusedVariables false

set_option maxRecDepth 100000 in
set_option maxHeartbeats 16000000 in
theorem rops_walk (N : Nat) (v : Value) (L : List Opn) (w : World) (hE : Env N w) (hv : RowAt w v L.length (ocells L)) (hl : L.length ≤ 65536) (hi : ∀ o ∈ L, In64O o ∧ saysF o = true) :
    Calls Tryd.prog 42 #[v] w fun e w' => e = .returned (.string ⟨(opsRuns L).toArray⟩) ∧ Below w.heap.size w w' := by
  have HV := Lib.hid hv
  have HE := Lib.hid hE
  have HI := Lib.hid hi
  obtain ⟨p, c, rfl, hc, _⟩ := hv
  have HF : Hid (∀ T, T = opsRuns L → T = opsRuns L) := Lib.hid (fun _ h => h)
  generalize hrr : opsRuns L = r at *
  have HRF0 := Lib.hid hrr
  clear hrr HF
  obtain ⟨i5, hi5, z0, z1, z2⟩ := info_parts info5
  clear hE hi
  generalize hln : L.length = len at *
  have HLN := Lib.hid hln
  clear hln
  have HT0 : Hid (TxO w.heap.size w (.slice none 0 0) [] w) := Lib.hid ⟨⟨.inl ⟨rfl, .inl ⟨rfl, rfl⟩⟩, Below.refl _ _, Nat.le_refl _⟩, ⟨rfl, .inl ⟨rfl, rfl⟩⟩⟩
  go_enter Tryd.func42, Tryd.ntmps42
  go_wp2_with fail
  generalize hB : w.heap.size = B at *
  have HBE := Lib.hid hB
  clear hB
  obtain ⟨w0, hw0⟩ : ∃ w0, w0 = w := ⟨_, rfl⟩
  rw [← hw0] at HT0 HV HE HBE
  have HW0 := Lib.hid hw0
  clear hw0
  go_loopw [3, 4] (fun ov iv wr => ∃ (k : Nat) (T : Word), k ≤ len ∧ iv = .int .i64 k ∧ opsRuns L = T ++ opsRuns (L.drop k) ∧ T.length ≤ 200 * k ∧ TxO B w0 ov T wr) (fun _ iv _ => len - (intOf iv).toNat)
  case atStart => exact ⟨0, [], Nat.zero_le _, rfl, rfl, Nat.le_refl _, by rw [← HW0.out]; exact HT0.out⟩
  case round =>
    obtain ⟨k, T, hk, rfl, hR, htl, hT⟩ := hrel
    have HRR := Lib.hid hR
    have HT := Lib.hid hT
    obtain ⟨po, co, hov⟩ := hT.tx.slice
    subst hov
    clear hR hT
    by_cases hin : k < len
    · have hiL : k < L.length := by rw [HLN.out]; exact hin
      have hne : L.drop k ≠ [] := by intro e; have := congrArg List.length e; simp at this; omega
      have HST := Lib.hid (opsRuns_step L hiL)
      have HSP := Lib.hid (fun n h1 hn h6 h hs => alike_spec (L := L.drop k) (n := n) (default : Opn) h1 hn h6 h hs)
      have HDL : Hid ((L.drop k).length = len - k) := Lib.hid (by rw [List.length_drop, HLN.out])
      have HGD : Hid (∀ j, (L.drop k).getD j default = L.getD (k + j) default) := Lib.hid (fun j => by simp [List.getD, List.getElem?_drop])
      have HIX := Lib.hid (HI.out (L.getD k default) (by simp only [List.getD, List.getElem?_eq_getElem hiL, Option.getD_some]; exact List.getElem_mem hiL))
      generalize hal : alikeF (L.drop k) = al at *
      clear hal hne
      go_wp2_with fail
      generalize wr = w1 at *
      go_loopw [5] (fun nv wr => ∃ n : Nat, 1 ≤ n ∧ k + n ≤ len ∧ nv = .int .i64 n ∧ (∀ j, j < n → j < (L.drop k).length → (L.drop k).getD j default = (L.drop k).getD 0 default) ∧ ∃ m, wr = w1.drewN m) (fun nv _ => 65536 - (intOf nv).toNat)
      case atStart => exact ⟨1, Nat.le_refl _, by omega, rfl, (fun j hj _ => by rw [show j = 0 by omega]), 0, rfl⟩
      case round =>
        obtain ⟨n, hn1, hn, rfl, hall, m, hwr⟩ := hrel
        have HALL := Lib.hid hall
        have HWR := Lib.hid hwr
        have hb1 : Below w1.heap.size w1 wr := by rw [hwr]; exact below_drewN (Below.refl _ _) m
        have HTr := Lib.hid (HT.out.up hb1)
        have hVr := HV.out.below (show Below w0.heap.size w0 wr by rw [HBE.out]; exact HTr.out.tx.low)
        obtain ⟨q1, c1, e1, _, hA1⟩ := hVr
        injection e1 with e11 e12 e13
        subst e11
        clear e12 e13
        obtain ⟨ga, oa, rfl, hA2⟩ := hA1.resolve_left (by intro e; have := congrArg List.length e; rw [ocells_length] at this; simp at this; omega)
        obtain ⟨d0, d1, d2, d3⟩ := opn_cells hA2 hiL
        clear hall hwr hb1 hA1
        generalize hxx : L.getD k default = x at *
        have HXX := Lib.hid hxx
        clear hxx
        have HEr : Hid (∀ W, Below wr.heap.size wr W → Env N W) := Lib.hid (fun W hW => HE.out.up (by
          have h1 : Below w0.heap.size w0 wr := by rw [HBE.out]; exact HTr.out.tx.low
          exact h1.trans (hW.mono h1.size)))
        have HTW := Lib.hid (fun W (hW : Below wr.heap.size wr W) => HTr.out.up hW)
        have htd := tellD_len x HIX.out.1
        by_cases hnl : k + n < len
        · have g1 : decide ((k : Int) + (n : Int) < (len : Int)) = true := decide_eq_true (by omega)
          have hnL : k + n < L.length := by rw [HLN.out]; exact hnl
          obtain ⟨f0, f1, f2, f3⟩ := opn_cells hA2 hnL
          generalize hyy : L.getD (k + n) default = y at *
          have HYY := Lib.hid hyy
          clear hyy
          have hqq := fun W => eql_opn y x W
          by_cases he : y = x
          · have HAL2 : Hid (∀ j, j < n + 1 → j < (L.drop k).length → (L.drop k).getD j default = (L.drop k).getD 0 default) := Lib.hid (fun j hj hjl => by
              by_cases e : j = n
              · subst e; rw [HGD.out, HGD.out, HYY.out, Nat.add_zero, HXX.out]; exact he
              · exact HALL.out j (by omega) hjl)
            rw [decide_eq_true he] at hqq
            clear he
            go_upto_region 6 with fail
            go_quiet (fail)
            go_wp2_with fail
            go_roundw
            case rel => exact ⟨n + 1, by omega, by omega, by go_num, HAL2.out, _, by rw [HWR.out]; exact World.drewN_drewN _ _ _⟩
            case measure => simp [intOf]; omega
          · have HAL : Hid (al = n) := Lib.hid (HSP.out n hn1 (.inl (by rw [HDL.out]; omega)) (by omega) HALL.out (.inr (.inr (by rw [HGD.out, HGD.out, HYY.out, Nat.add_zero, HXX.out]; exact he))))
            rw [decide_eq_false he] at hqq
            clear he
            have HST2 : Hid (opsRuns (L.drop k) = (32 :: 32 :: tellD x) ++ timesT n ++ opsRuns (L.drop (k + n))) := Lib.hid (by rw [HST.out, HAL.out])
            go_upto_region 6 with fail
            go_quiet (fail)
            go_wp2_with fail
            refine (form_walk N x _ (HEr.out _ (below_drewN (Below.refl _ _) _)) HIX.out.1 HIX.out.2).mono ?_
            rintro e w5 ⟨rfl, hb5⟩
            have HT5 := Lib.hid ((HTW.out _ (below_drewN (Below.refl _ _) _)).up hb5)
            clear hb5
            generalize hdx : tellD x = dx at *
            clear hdx
            obtain ⟨T6, hT6e⟩ : ∃ T', T' = T ++ (32 :: 32 :: dx) := ⟨_, rfl⟩
            have HX6 := Lib.hid hT6e
            have htl6 : T6.length ≤ T.length + (dx.length + 2) := by rw [hT6e, List.length_append, List.length_cons, List.length_cons]; exact Nat.le_refl _
            clear hT6e
            have hss := size_mk dx
            have hq1 : ¬ 9223372036854775807 < 2 + dx.length := by omega
            go_wp2_with (at_builtin; refine wpList_tx rfl (.tmp 31) (.tmp 37) rfl _ T (32 :: 32 :: dx) T6 rfl HT5.out.tx _ rfl ?e2 (by simp) ?l2 HX6.out ?_)
            case e2 => (apply ByteArray.ext; apply Array.toList_inj.1; simp)
            case l2 => (rw [List.length_cons, List.length_cons]; omega)
            intro v6 w6 hT6
            have HT6 := Lib.hid hT6
            obtain ⟨p6, c6, hv6⟩ := hT6.tx.slice
            subst hv6
            clear hT6 hq1
            by_cases hgt : n = 1
            · subst hgt
              obtain ⟨T9, hT9e⟩ : ∃ T', T' = T6 ++ [10] := ⟨_, rfl⟩
              have HX9 := Lib.hid hT9e
              have htl9 : T9.length ≤ T6.length + 1 := by rw [hT9e, List.length_append]; exact Nat.le_refl _
              clear hT9e
              go_wp2_with (at_builtin; refine wpList_append_row rfl (.tmp 46) (.tmp 47) 42 rfl B 5 i5 _ 1 1 Tryd.underlying42 hi5 z0 z1 (by decide) z2 rfl _ T6.length (Lib.byteCells T6) rfl (HT6.out.own.alloc _) 1 (Lib.byteCells [10]) (src_nl _) ?l2a ?b2a ?n2a ?_)
              case l2a => (unfold maxLen; omega)
              case b2a => omega
              case n2a => (have := HT6.out.tx.nw; simp; omega)
              intro v9 w9 hap
              have HAP := Lib.hid (HT6.out.line HX9.out hap)
              clear hap
              obtain ⟨p9, c9, hv9⟩ := HAP.out.tx.slice
              subst hv9
              go_wp2_with fail
              go_roundw
              case rel => exact ⟨k + 1, T9, by omega, by go_num, by rw [HX9.out, HX6.out, HRR.out, HST2.out]; simp [timesT], by omega, HAP.out⟩
              case measure => simp [intOf]; omega
            · have hgg : (n : Int) > 1 := by omega
              have hin2 : In64 (n : Int) := by unfold In64; omega
              have HIN2 := Lib.hid hin2
              have hlb := itoa_len hin2.1 hin2.2
              clear hin2
              have HE6 : Hid (Env N w6) := Lib.hid (HE.out.up (by rw [HBE.out]; exact HT6.out.tx.low))
              have HSTN : Hid (timesT n = (32 :: 120 :: Lib.itoa (n : Int)) ++ [10]) := Lib.hid (by unfold timesT; rw [if_pos (by omega)])
              clear hgt
              go_wp2_with fail
              refine (num_walk N (n : Int) _ HE6.out HIN2.out).mono ?_
              rintro e w7 ⟨rfl, hb7⟩
              have HT7 := Lib.hid (HT6.out.up hb7)
              clear hb7
              generalize hdn : Lib.itoa (n : Int) = dn at *
              clear hdn
              obtain ⟨T8, hT8e⟩ : ∃ T', T' = T6 ++ (32 :: 120 :: dn) := ⟨_, rfl⟩
              have HX8 := Lib.hid hT8e
              have htl8 : T8.length ≤ T6.length + (dn.length + 2) := by rw [hT8e, List.length_append, List.length_cons, List.length_cons]; exact Nat.le_refl _
              clear hT8e
              have hss2 := size_mk dn
              have hq2 : ¬ 9223372036854775807 < 2 + dn.length := by omega
              go_wp2_with (at_builtin; refine wpList_tx rfl (.tmp 41) (.tmp 44) rfl _ T6 (32 :: 120 :: dn) T8 rfl HT7.out.tx _ rfl ?e3 (by simp) ?l3 HX8.out ?_)
              case e3 => (apply ByteArray.ext; apply Array.toList_inj.1; simp)
              case l3 => (rw [List.length_cons, List.length_cons]; omega)
              intro v8 w8 hT8
              have HT8 := Lib.hid hT8
              obtain ⟨p8, c8, hv8⟩ := hT8.tx.slice
              subst hv8
              clear hT8 hq2
              obtain ⟨T9, hT9e⟩ : ∃ T', T' = T8 ++ [10] := ⟨_, rfl⟩
              have HX9 := Lib.hid hT9e
              have htl9 : T9.length ≤ T8.length + 1 := by rw [hT9e, List.length_append]; exact Nat.le_refl _
              clear hT9e
              go_wp2_with (at_builtin; refine wpList_append_row rfl (.tmp 46) (.tmp 47) 42 rfl B 5 i5 _ 1 1 Tryd.underlying42 hi5 z0 z1 (by decide) z2 rfl _ T8.length (Lib.byteCells T8) rfl (HT8.out.own.alloc _) 1 (Lib.byteCells [10]) (src_nl _) ?l2b ?b2b ?n2b ?_)
              case l2b => (unfold maxLen; omega)
              case b2b => omega
              case n2b => (have := HT8.out.tx.nw; simp; omega)
              intro v9 w9 hap
              have HAP := Lib.hid (HT8.out.line HX9.out hap)
              clear hap
              obtain ⟨p9, c9, hv9⟩ := HAP.out.tx.slice
              subst hv9
              go_wp2_with fail
              go_roundw
              case rel => exact ⟨k + n, T9, by omega, by go_num, by rw [HX9.out, HX8.out, HX6.out, HRR.out, HST2.out]; rw [HSTN.out]; simp, by omega, HAP.out⟩
              case measure => simp [intOf]; omega
        · have g1 : decide ((k : Int) + (n : Int) < (len : Int)) = false := decide_eq_false (by omega)
          have HAL : Hid (al = n) := Lib.hid (HSP.out n hn1 (.inl (by rw [HDL.out]; omega)) (by omega) HALL.out (.inl (by rw [HDL.out]; omega)))
          have HST2 : Hid (opsRuns (L.drop k) = (32 :: 32 :: tellD x) ++ timesT n ++ opsRuns (L.drop (k + n))) := Lib.hid (by rw [HST.out, HAL.out])
          go_upto_region 6 with fail
          go_quiet (fail)
          go_wp2_with fail
          refine (form_walk N x _ (HEr.out _ (below_drewN (Below.refl _ _) _)) HIX.out.1 HIX.out.2).mono ?_
          rintro e w5 ⟨rfl, hb5⟩
          have HT5 := Lib.hid ((HTW.out _ (below_drewN (Below.refl _ _) _)).up hb5)
          clear hb5
          generalize hdx : tellD x = dx at *
          clear hdx
          obtain ⟨T6, hT6e⟩ : ∃ T', T' = T ++ (32 :: 32 :: dx) := ⟨_, rfl⟩
          have HX6 := Lib.hid hT6e
          have htl6 : T6.length ≤ T.length + (dx.length + 2) := by rw [hT6e, List.length_append, List.length_cons, List.length_cons]; exact Nat.le_refl _
          clear hT6e
          have hss := size_mk dx
          have hq1 : ¬ 9223372036854775807 < 2 + dx.length := by omega
          go_wp2_with (at_builtin; refine wpList_tx rfl (.tmp 31) (.tmp 37) rfl _ T (32 :: 32 :: dx) T6 rfl HT5.out.tx _ rfl ?e2 (by simp) ?l2 HX6.out ?_)
          case e2 => (apply ByteArray.ext; apply Array.toList_inj.1; simp)
          case l2 => (rw [List.length_cons, List.length_cons]; omega)
          intro v6 w6 hT6
          have HT6 := Lib.hid hT6
          obtain ⟨p6, c6, hv6⟩ := hT6.tx.slice
          subst hv6
          clear hT6 hq1
          by_cases hgt : n = 1
          · subst hgt
            obtain ⟨T9, hT9e⟩ : ∃ T', T' = T6 ++ [10] := ⟨_, rfl⟩
            have HX9 := Lib.hid hT9e
            have htl9 : T9.length ≤ T6.length + 1 := by rw [hT9e, List.length_append]; exact Nat.le_refl _
            clear hT9e
            go_wp2_with (at_builtin; refine wpList_append_row rfl (.tmp 46) (.tmp 47) 42 rfl B 5 i5 _ 1 1 Tryd.underlying42 hi5 z0 z1 (by decide) z2 rfl _ T6.length (Lib.byteCells T6) rfl (HT6.out.own.alloc _) 1 (Lib.byteCells [10]) (src_nl _) ?l2a ?b2a ?n2a ?_)
            case l2a => (unfold maxLen; omega)
            case b2a => omega
            case n2a => (have := HT6.out.tx.nw; simp; omega)
            intro v9 w9 hap
            have HAP := Lib.hid (HT6.out.line HX9.out hap)
            clear hap
            obtain ⟨p9, c9, hv9⟩ := HAP.out.tx.slice
            subst hv9
            go_wp2_with fail
            go_roundw
            case rel => exact ⟨k + 1, T9, by omega, by go_num, by rw [HX9.out, HX6.out, HRR.out, HST2.out]; simp [timesT], by omega, HAP.out⟩
            case measure => simp [intOf]; omega
          · have hgg : (n : Int) > 1 := by omega
            have hin2 : In64 (n : Int) := by unfold In64; omega
            have HIN2 := Lib.hid hin2
            have hlb := itoa_len hin2.1 hin2.2
            clear hin2
            have HE6 : Hid (Env N w6) := Lib.hid (HE.out.up (by rw [HBE.out]; exact HT6.out.tx.low))
            have HSTN : Hid (timesT n = (32 :: 120 :: Lib.itoa (n : Int)) ++ [10]) := Lib.hid (by unfold timesT; rw [if_pos (by omega)])
            clear hgt
            go_wp2_with fail
            refine (num_walk N (n : Int) _ HE6.out HIN2.out).mono ?_
            rintro e w7 ⟨rfl, hb7⟩
            have HT7 := Lib.hid (HT6.out.up hb7)
            clear hb7
            generalize hdn : Lib.itoa (n : Int) = dn at *
            clear hdn
            obtain ⟨T8, hT8e⟩ : ∃ T', T' = T6 ++ (32 :: 120 :: dn) := ⟨_, rfl⟩
            have HX8 := Lib.hid hT8e
            have htl8 : T8.length ≤ T6.length + (dn.length + 2) := by rw [hT8e, List.length_append, List.length_cons, List.length_cons]; exact Nat.le_refl _
            clear hT8e
            have hss2 := size_mk dn
            have hq2 : ¬ 9223372036854775807 < 2 + dn.length := by omega
            go_wp2_with (at_builtin; refine wpList_tx rfl (.tmp 41) (.tmp 44) rfl _ T6 (32 :: 120 :: dn) T8 rfl HT7.out.tx _ rfl ?e3 (by simp) ?l3 HX8.out ?_)
            case e3 => (apply ByteArray.ext; apply Array.toList_inj.1; simp)
            case l3 => (rw [List.length_cons, List.length_cons]; omega)
            intro v8 w8 hT8
            have HT8 := Lib.hid hT8
            obtain ⟨p8, c8, hv8⟩ := hT8.tx.slice
            subst hv8
            clear hT8 hq2
            obtain ⟨T9, hT9e⟩ : ∃ T', T' = T8 ++ [10] := ⟨_, rfl⟩
            have HX9 := Lib.hid hT9e
            have htl9 : T9.length ≤ T8.length + 1 := by rw [hT9e, List.length_append]; exact Nat.le_refl _
            clear hT9e
            go_wp2_with (at_builtin; refine wpList_append_row rfl (.tmp 46) (.tmp 47) 42 rfl B 5 i5 _ 1 1 Tryd.underlying42 hi5 z0 z1 (by decide) z2 rfl _ T8.length (Lib.byteCells T8) rfl (HT8.out.own.alloc _) 1 (Lib.byteCells [10]) (src_nl _) ?l2b ?b2b ?n2b ?_)
            case l2b => (unfold maxLen; omega)
            case b2b => omega
            case n2b => (have := HT8.out.tx.nw; simp; omega)
            intro v9 w9 hap
            have HAP := Lib.hid (HT8.out.line HX9.out hap)
            clear hap
            obtain ⟨p9, c9, hv9⟩ := HAP.out.tx.slice
            subst hv9
            go_wp2_with fail
            go_roundw
            case rel => exact ⟨k + n, T9, by omega, by go_num, by rw [HX9.out, HX8.out, HX6.out, HRR.out, HST2.out]; rw [HSTN.out]; simp, by omega, HAP.out⟩
            case measure => simp [intOf]; omega
    have hke : k = len := by omega
    subst hke
    have HRF : Hid (r = T) := Lib.hid (by
      have h := HRR.out
      rw [List.drop_of_length_le (by rw [HLN.out]; exact Nat.le_refl _)] at h
      rw [← HRF0.out, h]
      show T ++ [] = T
      rw [List.append_nil])
    have hst := tx_string HT.out.own
    go_wp2_with fail
    go_ret
    exact ⟨by rw [HRF.out]; rfl, by rw [← HW0.out, HBE.out]; exact HT.out.tx.low⟩
end Go.Proofs.YtdmhlhoimaeacaaDoor
