/-
  The contract of the barrier's wait for one source behind the other (Barrier.lean), the alarm not raised.
-/
import Derived.Test.YtimkkeomdkbcjaaLimit
namespace Go.Proofs.Ytimkkeomdkbcjaa
open Go.RowKit
set_option linter.unusedVariables false
variable {Y : Lay} {al : Bool} {a : Nat → Nat} {n : Nat} {w : World}

/-- One load more of source j. -/
def upd (a : Nat → Nat) (j : Nat) : Nat → Nat := fun i => if i = j then a j + 1 else a i
/-- What a lean wait answers from source j on, with t tries left, i of them used, m the least so far: the limit, the error, the loads, the tries used. -/
def leanR (Y : Lay) (q : Int) : Nat → Nat → Nat → Int → (Nat → Nat) → Int × Int × (Nat → Nat) × Nat
  | 0, i, _, _, a => (0, 4, a, i)
  | t + 1, i, j, m, a =>
    if next Y a j < q then leanR Y q t (i + 1) j m (upd a j)
    else if j + 1 = Y.k then (if j = 0 ∨ next Y a j < m then next Y a j else m, 0, upd a j, i + 1)
    else leanR Y q t (i + 1) (j + 1) (if j = 0 ∨ next Y a j < m then next Y a j else m) (upd a j)

def DoneL (Y : Lay) (R : Int × Int × (Nat → Nat) × Nat) (al : Bool) (n d : Nat) (w : World) (e : Ending) (w' : World) : Prop :=
  e = .returned (.tuple #[.int .i64 R.1, .int .i64 R.2.1]) ∧ Mem Y al R.2.2.1 (n + 2 * R.2.2.2 * d) w' ∧ Below Y.N w w'

theorem upd_le {a b : Nat → Nat} {i j : Nat} (h : ∀ x, a x ≤ b x + i) : ∀ x, upd a j x ≤ b x + (i + 1) := by
  intro x
  unfold upd
  split
  · rename_i e; subst e; have := h x; omega
  · have := h x; omega

set_option maxHeartbeats 2000000 in
theorem lean_any (h : Mem Y false a n w) (q : Bool) (hk : 1 ≤ Y.k) (Q : Int) (T : Nat) (hT : T ≤ 1024) (ha : ∀ i, a i ≤ 1000000) (hn : n ≤ 1000000) :
    Calls Try.prog 22 #[.pointer (some ⟨Y.bb, 0, none⟩), sv Y q, .int .i64 Q, .int .i64 T] w (DoneL Y (leanR Y Q T 0 0 0 a) false n (inc q) w) := by
  have hm := method_rising
  have hi : inc q ≤ 1 := by cases q <;> simp [inc]
  have hkk := h.kk
  have HL : Hid (∀ (b : Nat → Nat) (j m : Nat) (w' : World), j < Y.k → b j ≤ 1000000000 → m ≤ 1000000000 → Mem Y false b m w' → Calls Try.prog 87 #[.pointer (some ⟨Y.r j, 0, none⟩), sv Y q] w' (Done Y (.int .i64 (next Y b j)) false (upd b j) (m + inc q) w')) :=
    fun b j m w' hj hb hm h' => loadM h' q hj (by omega) (by omega)
  have HA : Hid (∀ (b : Nat → Nat) (m : Nat) (w' : World), m ≤ 1000000000 → Mem Y false b m w' → Calls Try.prog 13 #[.pointer (some ⟨Y.bb, 0, none⟩), sv Y q] w' (Done Y (.bool false) false b (m + inc q) w')) :=
    fun b m w' hm h' => alerted h' q (by omega)
  have H0 := Lib.hid h
  have Ha := Lib.hid ha
  have HI := Lib.hid hi
  clear h ha hi
  generalize hR : leanR Y Q T 0 0 0 a = R
  have HR := Lib.hid hR
  clear hR
  generalize sv Y q = s at *
  generalize inc q = d at *
  go_enter Try.func22, Try.ntmps22
  go_wp2
  go_loopw [10, 11, 14] (fun jv mv iv wr => ∃ (i j : Nat) (m : Int) (b : Nat → Nat), i ≤ T ∧ j < Y.k ∧ iv = .int .i64 i ∧ jv = .int .i64 j ∧ mv = .int .i64 m ∧ Hid (leanR Y Q (T - i) i j m b = R) ∧ Hid (∀ x, b x ≤ a x + i) ∧ Mem Y false b (n + 2 * i * d) wr ∧ Below Y.N w wr) (fun _ _ i _ => T - (intOf i).toNat)
  case atStart => exact ⟨0, 0, 0, a, by omega, by omega, rfl, rfl, rfl, HR, fun x => by omega, by simpa using H0.out, Below.refl _ _⟩
  case round =>
    obtain ⟨i, j, m, b, hi, hj, rfl, rfl, rfl, HE, Hb, hM, hB⟩ := hrel
    have H3 := Lib.hid hM
    have B3 := Lib.hid hB
    clear hM hB
    by_cases hlt : i < T
    · have hd : 2 * i * d ≤ 2 * i := by have := Nat.mul_le_mul_left (2 * i) HI.out; omega
      have hbar := bar_cell H3.out (by omega)
      have hmul : n + 2 * i * d + d + d = n + 2 * (i + 1) * d := by
        have : 2 * (i + 1) * d = 2 * i * d + 2 * d := by rw [Nat.mul_add, Nat.add_mul]
        omega
      have HMul := Lib.hid hmul
      have hd1 := HI.out
      have Hd := Lib.hid hd
      have Hd1 := Lib.hid hd1
      have CA := Lib.hid (HA.out b (n + 2 * i * d) wr (by have := HI.out; omega) H3.out)
      have hbj : b j ≤ 1000000000 := by have := Hb.out j; have := Ha.out j; omega
      have CL : Hid (∀ w', Mem Y false b (n + 2 * i * d + d) w' → Calls Try.prog 87 #[.pointer (some ⟨Y.r j, 0, none⟩), s] w' (Done Y (.int .i64 (next Y b j)) false (upd b j) (n + 2 * i * d + d + d) w')) :=
        fun w' h' => HL.out b j _ w' hj hbj (by have := HI.out; omega) h'
      have HS : Hid (leanR Y Q (T - i - 1 + 1) i j m b = R) := by have := HE.out; rwa [show T - i - 1 + 1 = T - i by omega]
      clear hmul hd hd1 hbj
      generalize hv : next Y b j = v at *
      have HV := Lib.hid hv
      clear hv
      go_wp2_with fail
      refine CA.out.mono ?_
      rintro e w1 ⟨rfl, h1, hb1⟩
      have hc1 := bar_cell h1 (by omega)
      have hs1 := arr_cell h1 (i := j) hj
      have H4 := Lib.hid h1
      have B4 := Lib.hid hb1
      clear h1 hb1
      go_wp2_with fail
      refine (CL.out _ H4.out).mono ?_
      rintro e w2 ⟨rfl, h2, hb2⟩
      have hc2 := bar_cell h2 (by omega)
      have H5 := Lib.hid h2
      have B5 := Lib.hid hb2
      clear h2 hb2
      by_cases hvq : v < Q
      · go_wp2
        go_roundw
        case rel =>
          refine ⟨i + 1, j, m, upd b j, by omega, hj, by go_num, rfl, rfl, ?_, upd_le Hb.out, HMul.out ▸ H5.out, (B3.out.trans B4.out).trans B5.out⟩
          have := HS.out
          rw [leanR, HV.out, if_pos hvq] at this
          rwa [show T - (i + 1) = T - i - 1 by omega]
        case measure => simp [intOf]; omega
      · have hvQ : Q ≤ v := by omega
        by_cases hj0 : j = 0
        · have hj1 : ((j : Int) == 0) = true := by rw [beq_iff_eq]; omega
          have HM : (if j = 0 ∨ v < m then v else m) = v := if_pos (.inl hj0)
          have HJ0 := Lib.hid hj0
          clear hj0
          have HM' := Lib.hid HM
          clear HM
          by_cases hl : j + 1 = Y.k
          · have hl1 : ((j : Int) + 1 == (Y.k : Int)) = true := by rw [beq_iff_eq]; omega
            have HL1 := Lib.hid hl
            clear hl
            have HF : R = (v, 0, upd b j, i + 1) := by
              have := HS.out
              rw [leanR, HV.out, if_neg (show ¬ v < Q by omega), if_pos HL1.out, HM'.out] at this
              exact this.symm
            have HF' := Lib.hid HF
            clear HF
            go_wp2
            go_ret2
            rw [HF'.out]
            exact ⟨rfl, HMul.out ▸ H5.out, (B3.out.trans B4.out).trans B5.out⟩
          · have hl1 : ((j : Int) + 1 == (Y.k : Int)) = false := by rw [beq_eq_false_iff_ne]; omega
            have hjk : j + 1 < Y.k := by omega
            go_wp2
            go_roundw
            case rel =>
              refine ⟨i + 1, j + 1, v, upd b j, by omega, hjk, by go_num, by go_num, rfl, ?_, upd_le Hb.out, HMul.out ▸ H5.out, (B3.out.trans B4.out).trans B5.out⟩
              have := HS.out
              rw [leanR, HV.out, if_neg (show ¬ v < Q by omega), if_neg hl, HM'.out] at this
              rwa [show T - (i + 1) = T - i - 1 by omega]
            case measure => simp [intOf]; omega
        · have hj1 : ((j : Int) == 0) = false := by rw [beq_eq_false_iff_ne]; omega
          by_cases hvm : v < m
          · have _hx := hvm
            have HM : (if j = 0 ∨ v < m then v else m) = v := if_pos (.inr hvm)
            have HM' := Lib.hid HM
            clear HM
            by_cases hl : j + 1 = Y.k
            · have hl1 : ((j : Int) + 1 == (Y.k : Int)) = true := by rw [beq_iff_eq]; omega
              have HL1 := Lib.hid hl
              clear hl
              have HF : R = (v, 0, upd b j, i + 1) := by
                have := HS.out
                rw [leanR, HV.out, if_neg (show ¬ v < Q by omega), if_pos HL1.out, HM'.out] at this
                exact this.symm
              have HF' := Lib.hid HF
              clear HF
              go_wp2
              go_ret2
              rw [HF'.out]
              exact ⟨rfl, HMul.out ▸ H5.out, (B3.out.trans B4.out).trans B5.out⟩
            · have hl1 : ((j : Int) + 1 == (Y.k : Int)) = false := by rw [beq_eq_false_iff_ne]; omega
              have hjk : j + 1 < Y.k := by omega
              go_wp2
              go_roundw
              case rel =>
                refine ⟨i + 1, j + 1, v, upd b j, by omega, hjk, by go_num, by go_num, rfl, ?_, upd_le Hb.out, HMul.out ▸ H5.out, (B3.out.trans B4.out).trans B5.out⟩
                have := HS.out
                rw [leanR, HV.out, if_neg (show ¬ v < Q by omega), if_neg hl, HM'.out] at this
                rwa [show T - (i + 1) = T - i - 1 by omega]
              case measure => simp [intOf]; omega
          · have hvm2 : m ≤ v := by omega
            have HM : (if j = 0 ∨ v < m then v else m) = m := if_neg (by rintro (h | h); exact hj0 h; exact hvm h)
            have HM' := Lib.hid HM
            clear HM
            by_cases hl : j + 1 = Y.k
            · have hl1 : ((j : Int) + 1 == (Y.k : Int)) = true := by rw [beq_iff_eq]; omega
              have HL1 := Lib.hid hl
              clear hl
              have HF : R = (m, 0, upd b j, i + 1) := by
                have := HS.out
                rw [leanR, HV.out, if_neg (show ¬ v < Q by omega), if_pos HL1.out, HM'.out] at this
                exact this.symm
              have HF' := Lib.hid HF
              clear HF
              go_wp2
              go_ret2
              rw [HF'.out]
              exact ⟨rfl, HMul.out ▸ H5.out, (B3.out.trans B4.out).trans B5.out⟩
            · have hl1 : ((j : Int) + 1 == (Y.k : Int)) = false := by rw [beq_eq_false_iff_ne]; omega
              have hjk : j + 1 < Y.k := by omega
              go_wp2
              go_roundw
              case rel =>
                refine ⟨i + 1, j + 1, m, upd b j, by omega, hjk, by go_num, by go_num, rfl, ?_, upd_le Hb.out, HMul.out ▸ H5.out, (B3.out.trans B4.out).trans B5.out⟩
                have := HS.out
                rw [leanR, HV.out, if_neg (show ¬ v < Q by omega), if_neg hl, HM'.out] at this
                rwa [show T - (i + 1) = T - i - 1 by omega]
              case measure => simp [intOf]; omega
    · obtain rfl : i = T := by omega
      have HF : R = (0, 4, b, i) := by
        have := HE.out
        rw [Nat.sub_self, leanR] at this
        exact this.symm
      have HF' := Lib.hid HF
      clear HF
      go_wp2
      go_ret2
      rw [HF'.out]
      exact ⟨rfl, H3.out, B3.out⟩
end Go.Proofs.Ytimkkeomdkbcjaa
