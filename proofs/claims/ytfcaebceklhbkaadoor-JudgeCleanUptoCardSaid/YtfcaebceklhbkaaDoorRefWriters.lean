/-
  The contract of the document's Writers.
-/
import Derived.Test.YtfcaebceklhbkaaDoorRefWritten
namespace Go.Proofs.YtfcaebceklhbkaaDoor
open Go.RowKit
set_option linter.unusedVariables false

set_option maxRecDepth 100000 in
set_option maxHeartbeats 600000000000 in
theorem refWriters_walk (ao : Option Addr) (n c : Nat) (S : List Seen4) (w : World) (h0 : SeenRow w ao S) (hSn : S.length = n) (hn : n ≤ 300000000000) :
    Calls Tryd.prog 27 #[.slice ao n c] w (DoneF 107 (writF S) w) := by
  obtain ⟨i0, hi0, hz0, hz1, hz2⟩ := info_parts info107
  have H0 := Lib.hid h0
  have HSn := Lib.hid hSn
  clear h0 hSn
  have HST0 : Hid (RSt w w.heap.size 107 [] (.slice none 0 0) w) := ⟨World.ownsRow_nil _ _ _ _, Below.refl _ _, Nat.le_refl _⟩
  generalize hN : w.heap.size = N at *
  have HN := Lib.hid hN
  clear hN
  go_enter Tryd.func27, Tryd.ntmps27
  go_wp2_with fail
  go_loopw [3, 4] (fun v jv wr => ∃ j : Nat, j ≤ n ∧ jv = .int .i64 j ∧ RSt w N 107 (writAt S j) v wr) (fun _ jv _ => n - (intOf jv).toNat)
  case atStart => exact ⟨0, by omega, rfl, HST0.out⟩
  case round =>
    obtain ⟨j, hj, rfl, hR⟩ := hrel
    generalize wr = wo at *
    have HR := Lib.hid hR
    have hlen := writAt_length S j
    clear hR
    by_cases hlt : j < n
    · have hrow := H0.out.below (HR.out.low.mono (by have := HN.out; omega))
      obtain ⟨g, o, rfl, hc⟩ : ∃ g o, ao = some ⟨g, o, none⟩ ∧ ∀ i, i < n → wo.cell? ⟨g, o + i * 4, none⟩ = some (.int .i64 (S.getD i default).q) ∧ wo.cell? ⟨g, o + i * 4 + 1, none⟩ = some (.int .i64 (S.getD i default).a) ∧
          wo.cell? ⟨g, o + i * 4 + 2, none⟩ = some (.int .i64 (S.getD i default).b) ∧ wo.cell? ⟨g, o + i * 4 + 3, none⟩ = some (.int .i64 (S.getD i default).d) := by
        rcases hrow with h | ⟨g, o, h1, h2⟩
        · have := HSn.out; subst h; simp at this; omega
        · exact ⟨g, o, h1, by rw [← HSn.out]; exact h2⟩
      have HC := Lib.hid hc
      have HCJ := Lib.hid (hc j hlt)
      clear hc hrow
      have HW1 : Hid (writAt S (j + 1) = writAt S j ++ match nextAt S j (S.getD j default).a with
        | some y => if (S.getD j default).b = y then [] else [⟨5, 0, j, (S.getD j default).q, y⟩]
        | none => []) := rfl
      generalize (S.getD j default).q = q at *
      generalize (S.getD j default).a = a at *
      generalize (S.getD j default).b = b at *
      generalize (S.getD j default).d = d at *
      generalize writAt S j = l at *
      go_wp2_with fail
      generalize u3 = v0 at *
      go_loopw [3, 5] (fun v kv wq => ∃ (k m : Nat) (z : Int), k ≤ j ∧ kv = .int .i64 z ∧ z = (k : Int) - 1 ∧ nextAt S j a = nextAt S k a ∧ wq = wo.drewN m ∧ v = v0) (fun _ kv _ => (intOf kv + 1).toNat)
      case atStart => exact ⟨j, 0, (j : Int) - 1, Nat.le_refl _, rfl, rfl, rfl, rfl, by first | rfl | trivial⟩
      case round =>
        obtain ⟨k, m, z, hk, rfl, hz, hnx, hwq, rfl⟩ := hrel
        have HWQ := Lib.hid hwq
        have HNX := Lib.hid hnx
        have HRQ := Lib.hid (HR.out.draws m)
        rw [← hwq] at HRQ
        obtain ⟨c1, c2, c3, c4⟩ : wr.cell? ⟨g, o + j * 4, none⟩ = some (.int .i64 q) ∧ wr.cell? ⟨g, o + j * 4 + 1, none⟩ = some (.int .i64 a) ∧ wr.cell? ⟨g, o + j * 4 + 2, none⟩ = some (.int .i64 b) ∧ wr.cell? ⟨g, o + j * 4 + 3, none⟩ = some (.int .i64 d) := by
          rw [hwq]; exact HCJ.out
        clear hnx
        by_cases hk0 : k = 0
        · have HW2 := Lib.hid (show writAt S (j + 1) = l from by rw [hid_eq HW1, hid_eq HNX, hk0]; simp [nextAt])
          have hz0' : z < 0 := by omega
          clear hwq HW1 hz hk0
          go_wp2_with fail
          go_roundw
          case rel => exact ⟨j + 1, by omega, by go_num, by rw [HW2.out]; exact HRQ.out⟩
          case measure => simp [intOf]; omega
        · obtain ⟨k', rfl⟩ : ∃ k', k = k' + 1 := ⟨k - 1, by omega⟩
          obtain rfl : z = (k' : Int) := by omega
          obtain ⟨d1, d2, d3, d4⟩ : wr.cell? ⟨g, o + k' * 4, none⟩ = some (.int .i64 (S.getD k' default).q) ∧ wr.cell? ⟨g, o + k' * 4 + 1, none⟩ = some (.int .i64 (S.getD k' default).a) ∧ wr.cell? ⟨g, o + k' * 4 + 2, none⟩ = some (.int .i64 (S.getD k' default).b) ∧ wr.cell? ⟨g, o + k' * 4 + 3, none⟩ = some (.int .i64 (S.getD k' default).d) := by
            rw [hwq]; exact HC.out k' (by omega)
          have HNS : Hid (nextAt S (k' + 1) a = if a = (S.getD k' default).a then some (wrap64 ((S.getD k' default).b + 1)) else nextAt S k' a) := rfl
          generalize (S.getD k' default).q = q' at *
          generalize (S.getD k' default).a = a' at *
          generalize (S.getD k' default).b = b' at *
          generalize (S.getD k' default).d = d' at *
          clear hwq hz hk0
          by_cases hab : a' = a
          · have hN1 : nextAt S j a = some (wrap64 (b' + 1)) := by rw [hid_eq HNX, hid_eq HNS, if_pos hab.symm]
            subst hab
            by_cases hbw : b = wrap64 (b' + 1)
            · have HW2 := Lib.hid (show writAt S (j + 1) = l from by rw [hid_eq HW1, hN1]; simp [hbw])
              have hbe : (b == wrap64 (b' + 1)) = true := by rw [beq_iff_eq]; exact hbw
              have HBW := Lib.hid hbw
              clear hN1 HW1 hbw HNS
              go_wp2_with (go_quiet (fail))
              go_roundw
              case rel => exact ⟨j + 1, by omega, by go_num, by rw [HW2.out]; exact HRQ.out.draws nq⟩
              case measure => simp [intOf]; omega
            · have HW2 := Lib.hid (show writAt S (j + 1) = l ++ [⟨5, 0, j, q, wrap64 (b' + 1)⟩] from by rw [hid_eq HW1, hN1]; simp [hbw])
              have hbe : (b == wrap64 (b' + 1)) = false := by rw [beq_eq_false_iff_ne]; exact hbw
              have HBW := Lib.hid hbw
              have HSX := Lib.hid (fun m => src_at (wr.drewN m) wr.heap.size rfl (Flt.cells ⟨5, 0, j, q, wrap64 (b' + 1)⟩).toArray 107 5 rfl (flt_one _))
              have HOW := Lib.hid (fun m => (HRQ.out.draws m).row.alloc (.cells (Flt.cells ⟨5, 0, j, q, wrap64 (b' + 1)⟩).toArray 107))
              have HAP := Lib.hid (fun m v' w' ha => (HRQ.out.draws m).app (o := .cells (Flt.cells ⟨5, 0, j, q, wrap64 (b' + 1)⟩).toArray 107) (x := ⟨5, 0, j, q, wrap64 (b' + 1)⟩) (v' := v') (w1 := w') ha)
              have hNW := HRQ.out.nw
              clear hN1 HW1 hbw HNS
              go_wp2_with (first | go_quiet (fail) | (at_builtin; go_must (refine wpList_append_row rfl (.tmp 47) (.tmp 56) 60 rfl N 107 i0 _ 5 40 Tryd.underlying60 hi0 hz0 hz1 (by decide) hz2 rfl u3 l.length (fcells l) rfl (HOW.out _) 1 (Flt.cells ⟨5, 0, j, q, wrap64 (b' + 1)⟩) (HSX.out _) ?l2 ?b2 ?n2 ?_); go_must (case l2 => (unfold maxLen; omega)); go_must (case b2 => omega); go_must (case n2 => (simp; omega)); intro v' w' ha; have HA := Lib.hid (HAP.out _ _ _ ha); clear ha))
              go_roundw
              case rel => exact ⟨j + 1, by omega, by go_num, by rw [HW2.out]; exact HA.out⟩
              case measure => simp [intOf]; omega
          · have hN1 : nextAt S j a = nextAt S k' a := by rw [hid_eq HNX, hid_eq HNS, if_neg (fun h => hab h.symm)]
            have HN1 := Lib.hid hN1
            have hae : (a' == a) = false := by rw [beq_eq_false_iff_ne]; exact hab
            have HAB := Lib.hid hab
            clear hN1 hab HNS
            go_wp2_with (go_quiet (fail))
            go_roundw
            case rel => exact ⟨k', m + nq, (k' : Int) - 1, by omega, rfl, rfl, HN1.out, by rw [hid_eq HWQ, World.drewN_drewN], by first | rfl | trivial⟩
            case measure => simp [intOf] <;> omega
    · obtain rfl : j = n := by omega
      go_wp2_with fail
      go_ret
      exact ⟨_, rfl, by rw [writF, HSn.out, HN.out]; exact HR.out.row, by rw [HN.out]; exact HR.out.low⟩
end Go.Proofs.YtfcaebceklhbkaaDoor
