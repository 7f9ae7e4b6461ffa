/-
  Merged out of: Wait Wait2 New104. No condition of its own.
-/
import Derived.Test.YtimkkeomdkbcjaaFarP13
import Derived.Test.YtimkkeomdkbcjaaFarP02
/-
  The contract of the barrier's Wait, the alarm not raised, and raised; and without sources.
-/
namespace Go.Proofs.Ytimkkeomdkbcjaa
open Go.RowKit
set_option linter.unusedVariables false
variable {Y : Lay} {al : Bool} {a : Nat → Nat} {n : Nat} {w : World}

theorem limitM (h : Mem Y al a n w) (q : Bool) (hk : 1 ≤ Y.k) (ha : ∀ i, a i ≤ 1000000000000000) (hn : n + Y.k ≤ 1000000000000000) :
    Calls Try.prog 12 #[.pointer (some ⟨Y.bb, 0, none⟩), sv Y q] w (Done Y (.int .i64 (lim (next Y a) (Y.k - 1))) al (bump a Y.k) (n + Y.k * inc q) w) := by
  by_cases h1 : Y.k = 1
  · have := limit_one h q h1 (ha 0) (by omega)
    rw [h1]; simpa using this
  · exact limit_many h q (by omega) (fun i _ => ha i) hn

/-- What an eager or a rare wait answers, with t tries left, i of them used, s steps done: the limit, the error, the loads, the steps, the tries used. -/
def waitR (Y : Lay) (rare : Bool) (q : Int) : Nat → Nat → Nat → (Nat → Nat) → Int × Int × (Nat → Nat) × Nat × Nat
  | 0, i, s, a => (0, 4, a, s, i)
  | t + 1, i, s, a =>
    if q ≤ lim (next Y a) (Y.k - 1) then (lim (next Y a) (Y.k - 1), 0, bump a Y.k, s + (if rare = false ∨ i % 8 = 0 then 1 else 0) + Y.k, i + 1)
    else waitR Y rare q t (i + 1) (s + (if rare = false ∨ i % 8 = 0 then 1 else 0) + Y.k) (bump a Y.k)

def DoneW (Y : Lay) (R : Int × Int × (Nat → Nat) × Nat × Nat) (al : Bool) (n d : Nat) (w : World) (e : Ending) (w' : World) : Prop :=
  e = .returned (.tuple #[.int .i64 R.1, .int .i64 R.2.1]) ∧ Mem Y al R.2.2.1 (n + R.2.2.2.1 * d) w' ∧ Below Y.N w w'
def DoneE (Y : Lay) (x e0 : Int) (al : Bool) (a : Nat → Nat) (n : Nat) (w : World) (e : Ending) (w' : World) : Prop :=
  e = .returned (.tuple #[.int .i64 x, .int .i64 e0]) ∧ Mem Y al a n w' ∧ Below Y.N w w'

/-- tries, held from 1 to MostTries -/
def clamp (x : Int) : Nat := if x < 1 then 1 else if 1024 < x then 1024 else x.toNat
theorem clamp_le (x : Int) : 1 ≤ clamp x ∧ clamp x ≤ 1024 := by unfold clamp; split <;> (try split) <;> omega
theorem bump_le {a b : Nat → Nat} {i k : Nat} (h : ∀ x, a x ≤ b x + i) : ∀ x, bump a k x ≤ b x + (i + 1) := by
  intro x
  unfold bump
  split <;> (have := h x; omega)

set_option maxRecDepth 100000 in
set_option maxHeartbeats 4000000 in
theorem wait_eager (h : Mem Y false a n w) (q : Bool) (hk : 1 ≤ Y.k) (hk6 : Y.k ≤ 100000) (Q tries : Int) (ha : ∀ i, a i ≤ 1000000) (hn : n ≤ 1000000) :
    Calls Try.prog 11 #[.pointer (some ⟨Y.bb, 0, none⟩), sv Y q, .int .i64 Q, .int .i64 tries, .int .i64 1] w (DoneW Y (waitR Y false Q (clamp tries) 0 0 a) false n (inc q) w) := by
  have hkk := h.kk
  have hbar := bar_cell h (by omega)
  have hi : inc q ≤ 1 := by cases q <;> simp [inc]
  have HA : Hid (∀ (b : Nat → Nat) (m : Nat) (w' : World), m ≤ 1000000000 → Mem Y false b m w' → Calls Try.prog 13 #[.pointer (some ⟨Y.bb, 0, none⟩), sv Y q] w' (Done Y (.bool false) false b (m + inc q) w')) :=
    fun b m w' hm h' => alerted h' q (by omega)
  have HL : Hid (∀ (b : Nat → Nat) (m : Nat) (w' : World), (∀ x, b x ≤ 1000000000) → m + Y.k ≤ 1000000000000000 → Mem Y false b m w' → Calls Try.prog 12 #[.pointer (some ⟨Y.bb, 0, none⟩), sv Y q] w' (Done Y (.int .i64 (lim (next Y b) (Y.k - 1))) false (bump b Y.k) (m + Y.k * inc q) w')) :=
    fun b m w' hb hm h' => limitM h' q hk (fun x => by have := hb x; omega) hm
  have hk0 : ((Y.k : Int) == 0) = false := by rw [beq_eq_false_iff_ne]; omega
  have H0 := Lib.hid h
  have Ha := Lib.hid ha
  have HI := Lib.hid hi
  clear h ha hi
  obtain ⟨T, hTe⟩ : ∃ T, T = clamp tries := ⟨_, rfl⟩
  have hT1 : 1 ≤ T ∧ T ≤ 1024 := by rw [hTe]; exact clamp_le tries
  rw [← hTe]
  generalize hR : waitR Y false Q T 0 0 a = R
  have HR := Lib.hid hR
  clear hR
  have hcl : (tries < 1 ∧ T = 1) ∨ (1 ≤ tries ∧ tries ≤ 1024 ∧ tries = (T : Int)) ∨ (1024 < tries ∧ T = 1024) := by
    rw [hTe]; unfold clamp; split <;> (try split) <;> omega
  clear hTe
  generalize sv Y q = s at *
  generalize inc q = d at *
  obtain ⟨hT1, hT2⟩ := hT1
  have CW : Hid (∀ (P : Nat → World → Prop) , True) := fun _ => trivial
  rcases hcl with ⟨c1, c2⟩ | ⟨c1, c2, rfl⟩ | ⟨c1, c2⟩
  · have c3 : T ≤ 1 := by omega
    clear c2
    go_enter Try.func11, Try.ntmps11
    go_wp2
    go_loopw [43] (fun iv wr => ∃ (i : Nat) (S : Nat) (b : Nat → Nat), i ≤ T ∧ iv = .int .i64 i ∧ S ≤ i * (Y.k + 1) ∧ Hid (waitR Y false Q (T - i) i S b = R) ∧ Hid (∀ x, b x ≤ a x + i) ∧ Mem Y false b (n + S * d) wr ∧ Below Y.N w wr) (fun i _ => T - (intOf i).toNat)
    case atStart => exact ⟨0, 0, a, by omega, rfl, by omega, HR, fun x => by omega, by simpa using H0.out, Below.refl _ _⟩
    case round =>
      obtain ⟨i, S, b, hi, rfl, hS, HE, Hb, hM, hB⟩ := hrel
      have H3 := Lib.hid hM
      have B3 := Lib.hid hB
      clear hM hB
      by_cases hlt : i < T
      · have hik : i * (Y.k + 1) ≤ 1024 * 100001 := Nat.mul_le_mul (by omega) (by omega)
        have hSd : S * d ≤ S := by have := Nat.mul_le_mul_left S HI.out; omega
        have hs1 : ∀ x, S + x + Y.k ≤ (i + 1) * (Y.k + 1) ∨ 1 < x := by intro x; rw [Nat.add_mul]; omega
        have HS1 := Lib.hid hs1
        have CA := Lib.hid (HA.out b (n + S * d) wr (by omega) H3.out)
        have CL : Hid (∀ m w', m ≤ 1000000000000 → Mem Y false b m w' → Calls Try.prog 12 #[.pointer (some ⟨Y.bb, 0, none⟩), s] w' (Done Y (.int .i64 (lim (next Y b) (Y.k - 1))) false (bump b Y.k) (m + Y.k * d) w')) :=
          fun m w' hm h' => HL.out b m w' (fun x => by have := Hb.out x; have := Ha.out x; omega) (by omega) h'
        have HS : Hid (waitR Y false Q (T - i - 1 + 1) i S b = R) := by have := HE.out; rwa [show T - i - 1 + 1 = T - i by omega]
        have hSb : S ≤ 1100000000 := by omega
        clear hik hs1
        generalize hv : lim (next Y b) (Y.k - 1) = v at *
        have HV := Lib.hid hv
        have HSd := Lib.hid hSd
        have HSb := Lib.hid hSb
        have HSS := Lib.hid hS
        clear hv hSd hSb hS
        go_wp2_with fail
        refine CA.out.mono ?_
        rintro e w1 ⟨rfl, h1, hb1⟩
        have H4 := Lib.hid h1
        have B4 := Lib.hid hb1
        clear h1 hb1
        go_wp2_with fail
        refine (CL.out _ _ (by have := HI.out; have := HSd.out; have := HSb.out; omega) H4.out).mono ?_
        rintro e w2 ⟨rfl, h2, hb2⟩
        have H5 := Lib.hid h2
        have B5 := Lib.hid hb2
        clear h2 hb2
        have HX : Hid (Mem Y false (bump b Y.k) (n + (S + 1 + Y.k) * d) w2) := by
          have := H5.out
          rw [show n + (S + 1 + Y.k) * d = n + S * d + d + Y.k * d by simp only [Nat.add_mul]; omega]
          exact this
        by_cases hvq : Q ≤ v
        · have HF : R = (v, 0, bump b Y.k, S + 1 + Y.k, i + 1) := by
            have := HS.out
            rw [waitR, HV.out, if_pos hvq, if_pos (.inl rfl)] at this
            exact this.symm
          have HF' := Lib.hid HF
          clear HF
          go_wp2
          go_ret2
          rw [HF'.out]
          exact ⟨rfl, HX.out, (B3.out.trans B4.out).trans B5.out⟩
        · have hvq2 : v < Q := by omega
          go_wp2
          go_roundw
          case rel =>
            refine ⟨i + 1, S + 1 + Y.k, bump b Y.k, by omega, by go_num, ?_, ?_, bump_le Hb.out, HX.out, (B3.out.trans B4.out).trans B5.out⟩
            · have := HS1.out 1; have := HSS.out; omega
            · have := HS.out
              rw [waitR, HV.out, if_neg (show ¬ Q ≤ v by omega), if_pos (.inl rfl)] at this
              rwa [show T - (i + 1) = T - i - 1 by omega]
          case measure => simp [intOf]; omega
      · obtain rfl : i = T := by omega
        have HF : R = (0, 4, b, S, i) := by
          have := HE.out
          rw [Nat.sub_self, waitR] at this
          exact this.symm
        have HF' := Lib.hid HF
        clear HF
        go_wp2
        go_ret2
        rw [HF'.out]
        exact ⟨rfl, H3.out, B3.out⟩
  · go_enter Try.func11, Try.ntmps11
    go_wp2
    go_loopw [43] (fun iv wr => ∃ (i : Nat) (S : Nat) (b : Nat → Nat), i ≤ T ∧ iv = .int .i64 i ∧ S ≤ i * (Y.k + 1) ∧ Hid (waitR Y false Q (T - i) i S b = R) ∧ Hid (∀ x, b x ≤ a x + i) ∧ Mem Y false b (n + S * d) wr ∧ Below Y.N w wr) (fun i _ => T - (intOf i).toNat)
    case atStart => exact ⟨0, 0, a, by omega, rfl, by omega, HR, fun x => by omega, by simpa using H0.out, Below.refl _ _⟩
    case round =>
      obtain ⟨i, S, b, hi, rfl, hS, HE, Hb, hM, hB⟩ := hrel
      have H3 := Lib.hid hM
      have B3 := Lib.hid hB
      clear hM hB
      by_cases hlt : i < T
      · have hik : i * (Y.k + 1) ≤ 1024 * 100001 := Nat.mul_le_mul (by omega) (by omega)
        have hSd : S * d ≤ S := by have := Nat.mul_le_mul_left S HI.out; omega
        have hs1 : ∀ x, S + x + Y.k ≤ (i + 1) * (Y.k + 1) ∨ 1 < x := by intro x; rw [Nat.add_mul]; omega
        have HS1 := Lib.hid hs1
        have CA := Lib.hid (HA.out b (n + S * d) wr (by omega) H3.out)
        have CL : Hid (∀ m w', m ≤ 1000000000000 → Mem Y false b m w' → Calls Try.prog 12 #[.pointer (some ⟨Y.bb, 0, none⟩), s] w' (Done Y (.int .i64 (lim (next Y b) (Y.k - 1))) false (bump b Y.k) (m + Y.k * d) w')) :=
          fun m w' hm h' => HL.out b m w' (fun x => by have := Hb.out x; have := Ha.out x; omega) (by omega) h'
        have HS : Hid (waitR Y false Q (T - i - 1 + 1) i S b = R) := by have := HE.out; rwa [show T - i - 1 + 1 = T - i by omega]
        have hSb : S ≤ 1100000000 := by omega
        clear hik hs1
        generalize hv : lim (next Y b) (Y.k - 1) = v at *
        have HV := Lib.hid hv
        have HSd := Lib.hid hSd
        have HSb := Lib.hid hSb
        have HSS := Lib.hid hS
        clear hv hSd hSb hS
        go_wp2_with fail
        refine CA.out.mono ?_
        rintro e w1 ⟨rfl, h1, hb1⟩
        have H4 := Lib.hid h1
        have B4 := Lib.hid hb1
        clear h1 hb1
        go_wp2_with fail
        refine (CL.out _ _ (by have := HI.out; have := HSd.out; have := HSb.out; omega) H4.out).mono ?_
        rintro e w2 ⟨rfl, h2, hb2⟩
        have H5 := Lib.hid h2
        have B5 := Lib.hid hb2
        clear h2 hb2
        have HX : Hid (Mem Y false (bump b Y.k) (n + (S + 1 + Y.k) * d) w2) := by
          have := H5.out
          rw [show n + (S + 1 + Y.k) * d = n + S * d + d + Y.k * d by simp only [Nat.add_mul]; omega]
          exact this
        by_cases hvq : Q ≤ v
        · have HF : R = (v, 0, bump b Y.k, S + 1 + Y.k, i + 1) := by
            have := HS.out
            rw [waitR, HV.out, if_pos hvq, if_pos (.inl rfl)] at this
            exact this.symm
          have HF' := Lib.hid HF
          clear HF
          go_wp2
          go_ret2
          rw [HF'.out]
          exact ⟨rfl, HX.out, (B3.out.trans B4.out).trans B5.out⟩
        · have hvq2 : v < Q := by omega
          go_wp2
          go_roundw
          case rel =>
            refine ⟨i + 1, S + 1 + Y.k, bump b Y.k, by omega, by go_num, ?_, ?_, bump_le Hb.out, HX.out, (B3.out.trans B4.out).trans B5.out⟩
            · have := HS1.out 1; have := HSS.out; omega
            · have := HS.out
              rw [waitR, HV.out, if_neg (show ¬ Q ≤ v by omega), if_pos (.inl rfl)] at this
              rwa [show T - (i + 1) = T - i - 1 by omega]
          case measure => simp [intOf]; omega
      · obtain rfl : i = T := by omega
        have HF : R = (0, 4, b, S, i) := by
          have := HE.out
          rw [Nat.sub_self, waitR] at this
          exact this.symm
        have HF' := Lib.hid HF
        clear HF
        go_wp2
        go_ret2
        rw [HF'.out]
        exact ⟨rfl, H3.out, B3.out⟩
  · have c3 : 1024 ≤ T := by omega
    clear c2
    go_enter Try.func11, Try.ntmps11
    go_wp2
    go_loopw [43] (fun iv wr => ∃ (i : Nat) (S : Nat) (b : Nat → Nat), i ≤ T ∧ iv = .int .i64 i ∧ S ≤ i * (Y.k + 1) ∧ Hid (waitR Y false Q (T - i) i S b = R) ∧ Hid (∀ x, b x ≤ a x + i) ∧ Mem Y false b (n + S * d) wr ∧ Below Y.N w wr) (fun i _ => T - (intOf i).toNat)
    case atStart => exact ⟨0, 0, a, by omega, rfl, by omega, HR, fun x => by omega, by simpa using H0.out, Below.refl _ _⟩
    case round =>
      obtain ⟨i, S, b, hi, rfl, hS, HE, Hb, hM, hB⟩ := hrel
      have H3 := Lib.hid hM
      have B3 := Lib.hid hB
      clear hM hB
      by_cases hlt : i < T
      · have hik : i * (Y.k + 1) ≤ 1024 * 100001 := Nat.mul_le_mul (by omega) (by omega)
        have hSd : S * d ≤ S := by have := Nat.mul_le_mul_left S HI.out; omega
        have hs1 : ∀ x, S + x + Y.k ≤ (i + 1) * (Y.k + 1) ∨ 1 < x := by intro x; rw [Nat.add_mul]; omega
        have HS1 := Lib.hid hs1
        have CA := Lib.hid (HA.out b (n + S * d) wr (by omega) H3.out)
        have CL : Hid (∀ m w', m ≤ 1000000000000 → Mem Y false b m w' → Calls Try.prog 12 #[.pointer (some ⟨Y.bb, 0, none⟩), s] w' (Done Y (.int .i64 (lim (next Y b) (Y.k - 1))) false (bump b Y.k) (m + Y.k * d) w')) :=
          fun m w' hm h' => HL.out b m w' (fun x => by have := Hb.out x; have := Ha.out x; omega) (by omega) h'
        have HS : Hid (waitR Y false Q (T - i - 1 + 1) i S b = R) := by have := HE.out; rwa [show T - i - 1 + 1 = T - i by omega]
        have hSb : S ≤ 1100000000 := by omega
        clear hik hs1
        generalize hv : lim (next Y b) (Y.k - 1) = v at *
        have HV := Lib.hid hv
        have HSd := Lib.hid hSd
        have HSb := Lib.hid hSb
        have HSS := Lib.hid hS
        clear hv hSd hSb hS
        go_wp2_with fail
        refine CA.out.mono ?_
        rintro e w1 ⟨rfl, h1, hb1⟩
        have H4 := Lib.hid h1
        have B4 := Lib.hid hb1
        clear h1 hb1
        go_wp2_with fail
        refine (CL.out _ _ (by have := HI.out; have := HSd.out; have := HSb.out; omega) H4.out).mono ?_
        rintro e w2 ⟨rfl, h2, hb2⟩
        have H5 := Lib.hid h2
        have B5 := Lib.hid hb2
        clear h2 hb2
        have HX : Hid (Mem Y false (bump b Y.k) (n + (S + 1 + Y.k) * d) w2) := by
          have := H5.out
          rw [show n + (S + 1 + Y.k) * d = n + S * d + d + Y.k * d by simp only [Nat.add_mul]; omega]
          exact this
        by_cases hvq : Q ≤ v
        · have HF : R = (v, 0, bump b Y.k, S + 1 + Y.k, i + 1) := by
            have := HS.out
            rw [waitR, HV.out, if_pos hvq, if_pos (.inl rfl)] at this
            exact this.symm
          have HF' := Lib.hid HF
          clear HF
          go_wp2
          go_ret2
          rw [HF'.out]
          exact ⟨rfl, HX.out, (B3.out.trans B4.out).trans B5.out⟩
        · have hvq2 : v < Q := by omega
          go_wp2
          go_roundw
          case rel =>
            refine ⟨i + 1, S + 1 + Y.k, bump b Y.k, by omega, by go_num, ?_, ?_, bump_le Hb.out, HX.out, (B3.out.trans B4.out).trans B5.out⟩
            · have := HS1.out 1; have := HSS.out; omega
            · have := HS.out
              rw [waitR, HV.out, if_neg (show ¬ Q ≤ v by omega), if_pos (.inl rfl)] at this
              rwa [show T - (i + 1) = T - i - 1 by omega]
          case measure => simp [intOf]; omega
      · obtain rfl : i = T := by omega
        have HF : R = (0, 4, b, S, i) := by
          have := HE.out
          rw [Nat.sub_self, waitR] at this
          exact this.symm
        have HF' := Lib.hid HF
        clear HF
        go_wp2
        go_ret2
        rw [HF'.out]
        exact ⟨rfl, H3.out, B3.out⟩

set_option maxRecDepth 100000 in
set_option maxHeartbeats 4000000 in
theorem wait_rare (h : Mem Y false a n w) (q : Bool) (hk : 1 ≤ Y.k) (hk6 : Y.k ≤ 100000) (Q tries : Int) (ha : ∀ i, a i ≤ 1000000) (hn : n ≤ 1000000) :
    Calls Try.prog 11 #[.pointer (some ⟨Y.bb, 0, none⟩), sv Y q, .int .i64 Q, .int .i64 tries, .int .i64 3] w (DoneW Y (waitR Y true Q (clamp tries) 0 0 a) false n (inc q) w) := by
  have hkk := h.kk
  have hbar := bar_cell h (by omega)
  have hi : inc q ≤ 1 := by cases q <;> simp [inc]
  have HA : Hid (∀ (b : Nat → Nat) (m : Nat) (w' : World), m ≤ 1000000000 → Mem Y false b m w' → Calls Try.prog 13 #[.pointer (some ⟨Y.bb, 0, none⟩), sv Y q] w' (Done Y (.bool false) false b (m + inc q) w')) :=
    fun b m w' hm h' => alerted h' q (by omega)
  have HL : Hid (∀ (b : Nat → Nat) (m : Nat) (w' : World), (∀ x, b x ≤ 1000000000) → m + Y.k ≤ 1000000000000000 → Mem Y false b m w' → Calls Try.prog 12 #[.pointer (some ⟨Y.bb, 0, none⟩), sv Y q] w' (Done Y (.int .i64 (lim (next Y b) (Y.k - 1))) false (bump b Y.k) (m + Y.k * inc q) w')) :=
    fun b m w' hb hm h' => limitM h' q hk (fun x => by have := hb x; omega) hm
  have hk0 : ((Y.k : Int) == 0) = false := by rw [beq_eq_false_iff_ne]; omega
  have H0 := Lib.hid h
  have Ha := Lib.hid ha
  have HI := Lib.hid hi
  clear h ha hi
  obtain ⟨T, hTe⟩ : ∃ T, T = clamp tries := ⟨_, rfl⟩
  have hT1 : 1 ≤ T ∧ T ≤ 1024 := by rw [hTe]; exact clamp_le tries
  rw [← hTe]
  generalize hR : waitR Y true Q T 0 0 a = R
  have HR := Lib.hid hR
  clear hR
  have hcl : (tries < 1 ∧ T = 1) ∨ (1 ≤ tries ∧ tries ≤ 1024 ∧ tries = (T : Int)) ∨ (1024 < tries ∧ T = 1024) := by
    rw [hTe]; unfold clamp; split <;> (try split) <;> omega
  clear hTe
  generalize sv Y q = s at *
  generalize inc q = d at *
  obtain ⟨hT1, hT2⟩ := hT1
  have CW : Hid (∀ (P : Nat → World → Prop) , True) := fun _ => trivial
  rcases hcl with ⟨c1, c2⟩ | ⟨c1, c2, rfl⟩ | ⟨c1, c2⟩
  · have c3 : T ≤ 1 := by omega
    clear c2
    go_enter Try.func11, Try.ntmps11
    go_wp2
    go_loopw [43] (fun iv wr => ∃ (i : Nat) (S : Nat) (b : Nat → Nat), i ≤ T ∧ iv = .int .i64 i ∧ S ≤ i * (Y.k + 1) ∧ Hid (waitR Y true Q (T - i) i S b = R) ∧ Hid (∀ x, b x ≤ a x + i) ∧ Mem Y false b (n + S * d) wr ∧ Below Y.N w wr) (fun i _ => T - (intOf i).toNat)
    case atStart => exact ⟨0, 0, a, by omega, rfl, by omega, HR, fun x => by omega, by simpa using H0.out, Below.refl _ _⟩
    case round =>
      obtain ⟨i, S, b, hi, rfl, hS, HE, Hb, hM, hB⟩ := hrel
      have H3 := Lib.hid hM
      have B3 := Lib.hid hB
      clear hM hB
      by_cases hlt : i < T
      · have hik : i * (Y.k + 1) ≤ 1024 * 100001 := Nat.mul_le_mul (by omega) (by omega)
        have hSd : S * d ≤ S := by have := Nat.mul_le_mul_left S HI.out; omega
        have hs1 : ∀ x, S + x + Y.k ≤ (i + 1) * (Y.k + 1) ∨ 1 < x := by intro x; rw [Nat.add_mul]; omega
        have HS1 := Lib.hid hs1
        have CA := Lib.hid (HA.out b (n + S * d) wr (by omega) H3.out)
        have CL : Hid (∀ m w', m ≤ 1000000000000 → Mem Y false b m w' → Calls Try.prog 12 #[.pointer (some ⟨Y.bb, 0, none⟩), s] w' (Done Y (.int .i64 (lim (next Y b) (Y.k - 1))) false (bump b Y.k) (m + Y.k * d) w')) :=
          fun m w' hm h' => HL.out b m w' (fun x => by have := Hb.out x; have := Ha.out x; omega) (by omega) h'
        have HS : Hid (waitR Y true Q (T - i - 1 + 1) i S b = R) := by have := HE.out; rwa [show T - i - 1 + 1 = T - i by omega]
        have hSb : S ≤ 1100000000 := by omega
        clear hik hs1
        generalize hv : lim (next Y b) (Y.k - 1) = v at *
        have HV := Lib.hid hv
        have HSd := Lib.hid hSd
        have HSb := Lib.hid hSb
        have HSS := Lib.hid hS
        clear hv hSd hSb hS
        by_cases h8 : i % 8 = 0
        · have h8i : ((i : Int) % 8 == 0) = true := by rw [beq_iff_eq]; omega
          have H8 := Lib.hid h8
          clear h8
          go_wp2_with fail
          refine CA.out.mono ?_
          rintro e w1 ⟨rfl, h1, hb1⟩
          have H4 := Lib.hid h1
          have B4 := Lib.hid hb1
          clear h1 hb1
          go_wp2_with fail
          refine (CL.out _ _ (by have := HI.out; have := HSd.out; have := HSb.out; omega) H4.out).mono ?_
          rintro e w2 ⟨rfl, h2, hb2⟩
          have H5 := Lib.hid h2
          have B5 := Lib.hid hb2
          clear h2 hb2
          have HX : Hid (Mem Y false (bump b Y.k) (n + (S + 1 + Y.k) * d) w2) := by
            have := H5.out
            rw [show n + (S + 1 + Y.k) * d = n + S * d + d + Y.k * d by simp only [Nat.add_mul]; omega]
            exact this
          by_cases hvq : Q ≤ v
          · have HF : R = (v, 0, bump b Y.k, S + 1 + Y.k, i + 1) := by
              have := HS.out
              rw [waitR, HV.out, if_pos hvq, if_pos (.inr H8.out)] at this
              exact this.symm
            have HF' := Lib.hid HF
            clear HF
            go_wp2
            go_ret2
            rw [HF'.out]
            exact ⟨rfl, HX.out, (B3.out.trans B4.out).trans B5.out⟩
          · have hvq2 : v < Q := by omega
            go_wp2
            go_roundw
            case rel =>
              refine ⟨i + 1, S + 1 + Y.k, bump b Y.k, by omega, by go_num, ?_, ?_, bump_le Hb.out, HX.out, (B3.out.trans B4.out).trans B5.out⟩
              · have := HS1.out 1; have := HSS.out; omega
              · have := HS.out
                rw [waitR, HV.out, if_neg (show ¬ Q ≤ v by omega), if_pos (.inr H8.out)] at this
                rwa [show T - (i + 1) = T - i - 1 by omega]
            case measure => simp [intOf]; omega
        · have h8i : ((i : Int) % 8 == 0) = false := by rw [beq_eq_false_iff_ne]; omega
          have H8 := Lib.hid h8
          clear h8
          have B4 := Lib.hid (Below.refl Y.N wr)
          go_wp2_with fail
          refine (CL.out _ _ (by have := HSd.out; have := HSb.out; omega) H3.out).mono ?_
          rintro e w2 ⟨rfl, h2, hb2⟩
          have H5 := Lib.hid h2
          have B5 := Lib.hid hb2
          clear h2 hb2
          have HX : Hid (Mem Y false (bump b Y.k) (n + (S + 0 + Y.k) * d) w2) := by
            have := H5.out
            rw [show n + (S + 0 + Y.k) * d = n + S * d + Y.k * d by simp only [Nat.add_mul]; omega]
            exact this
          by_cases hvq : Q ≤ v
          · have HF : R = (v, 0, bump b Y.k, S + 0 + Y.k, i + 1) := by
              have := HS.out
              rw [waitR, HV.out, if_pos hvq, if_neg (by rintro (h | h); cases h; exact H8.out h)] at this
              exact this.symm
            have HF' := Lib.hid HF
            clear HF
            go_wp2
            go_ret2
            rw [HF'.out]
            exact ⟨rfl, HX.out, (B3.out.trans B4.out).trans B5.out⟩
          · have hvq2 : v < Q := by omega
            go_wp2
            go_roundw
            case rel =>
              refine ⟨i + 1, S + 0 + Y.k, bump b Y.k, by omega, by go_num, ?_, ?_, bump_le Hb.out, HX.out, (B3.out.trans B4.out).trans B5.out⟩
              · have := HS1.out 0; have := HSS.out; omega
              · have := HS.out
                rw [waitR, HV.out, if_neg (show ¬ Q ≤ v by omega), if_neg (by rintro (h | h); cases h; exact H8.out h)] at this
                rwa [show T - (i + 1) = T - i - 1 by omega]
            case measure => simp [intOf]; omega
      · obtain rfl : i = T := by omega
        have HF : R = (0, 4, b, S, i) := by
          have := HE.out
          rw [Nat.sub_self, waitR] at this
          exact this.symm
        have HF' := Lib.hid HF
        clear HF
        go_wp2
        go_ret2
        rw [HF'.out]
        exact ⟨rfl, H3.out, B3.out⟩
  · go_enter Try.func11, Try.ntmps11
    go_wp2
    go_loopw [43] (fun iv wr => ∃ (i : Nat) (S : Nat) (b : Nat → Nat), i ≤ T ∧ iv = .int .i64 i ∧ S ≤ i * (Y.k + 1) ∧ Hid (waitR Y true Q (T - i) i S b = R) ∧ Hid (∀ x, b x ≤ a x + i) ∧ Mem Y false b (n + S * d) wr ∧ Below Y.N w wr) (fun i _ => T - (intOf i).toNat)
    case atStart => exact ⟨0, 0, a, by omega, rfl, by omega, HR, fun x => by omega, by simpa using H0.out, Below.refl _ _⟩
    case round =>
      obtain ⟨i, S, b, hi, rfl, hS, HE, Hb, hM, hB⟩ := hrel
      have H3 := Lib.hid hM
      have B3 := Lib.hid hB
      clear hM hB
      by_cases hlt : i < T
      · have hik : i * (Y.k + 1) ≤ 1024 * 100001 := Nat.mul_le_mul (by omega) (by omega)
        have hSd : S * d ≤ S := by have := Nat.mul_le_mul_left S HI.out; omega
        have hs1 : ∀ x, S + x + Y.k ≤ (i + 1) * (Y.k + 1) ∨ 1 < x := by intro x; rw [Nat.add_mul]; omega
        have HS1 := Lib.hid hs1
        have CA := Lib.hid (HA.out b (n + S * d) wr (by omega) H3.out)
        have CL : Hid (∀ m w', m ≤ 1000000000000 → Mem Y false b m w' → Calls Try.prog 12 #[.pointer (some ⟨Y.bb, 0, none⟩), s] w' (Done Y (.int .i64 (lim (next Y b) (Y.k - 1))) false (bump b Y.k) (m + Y.k * d) w')) :=
          fun m w' hm h' => HL.out b m w' (fun x => by have := Hb.out x; have := Ha.out x; omega) (by omega) h'
        have HS : Hid (waitR Y true Q (T - i - 1 + 1) i S b = R) := by have := HE.out; rwa [show T - i - 1 + 1 = T - i by omega]
        have hSb : S ≤ 1100000000 := by omega
        clear hik hs1
        generalize hv : lim (next Y b) (Y.k - 1) = v at *
        have HV := Lib.hid hv
        have HSd := Lib.hid hSd
        have HSb := Lib.hid hSb
        have HSS := Lib.hid hS
        clear hv hSd hSb hS
        by_cases h8 : i % 8 = 0
        · have h8i : ((i : Int) % 8 == 0) = true := by rw [beq_iff_eq]; omega
          have H8 := Lib.hid h8
          clear h8
          go_wp2_with fail
          refine CA.out.mono ?_
          rintro e w1 ⟨rfl, h1, hb1⟩
          have H4 := Lib.hid h1
          have B4 := Lib.hid hb1
          clear h1 hb1
          go_wp2_with fail
          refine (CL.out _ _ (by have := HI.out; have := HSd.out; have := HSb.out; omega) H4.out).mono ?_
          rintro e w2 ⟨rfl, h2, hb2⟩
          have H5 := Lib.hid h2
          have B5 := Lib.hid hb2
          clear h2 hb2
          have HX : Hid (Mem Y false (bump b Y.k) (n + (S + 1 + Y.k) * d) w2) := by
            have := H5.out
            rw [show n + (S + 1 + Y.k) * d = n + S * d + d + Y.k * d by simp only [Nat.add_mul]; omega]
            exact this
          by_cases hvq : Q ≤ v
          · have HF : R = (v, 0, bump b Y.k, S + 1 + Y.k, i + 1) := by
              have := HS.out
              rw [waitR, HV.out, if_pos hvq, if_pos (.inr H8.out)] at this
              exact this.symm
            have HF' := Lib.hid HF
            clear HF
            go_wp2
            go_ret2
            rw [HF'.out]
            exact ⟨rfl, HX.out, (B3.out.trans B4.out).trans B5.out⟩
          · have hvq2 : v < Q := by omega
            go_wp2
            go_roundw
            case rel =>
              refine ⟨i + 1, S + 1 + Y.k, bump b Y.k, by omega, by go_num, ?_, ?_, bump_le Hb.out, HX.out, (B3.out.trans B4.out).trans B5.out⟩
              · have := HS1.out 1; have := HSS.out; omega
              · have := HS.out
                rw [waitR, HV.out, if_neg (show ¬ Q ≤ v by omega), if_pos (.inr H8.out)] at this
                rwa [show T - (i + 1) = T - i - 1 by omega]
            case measure => simp [intOf]; omega
        · have h8i : ((i : Int) % 8 == 0) = false := by rw [beq_eq_false_iff_ne]; omega
          have H8 := Lib.hid h8
          clear h8
          have B4 := Lib.hid (Below.refl Y.N wr)
          go_wp2_with fail
          refine (CL.out _ _ (by have := HSd.out; have := HSb.out; omega) H3.out).mono ?_
          rintro e w2 ⟨rfl, h2, hb2⟩
          have H5 := Lib.hid h2
          have B5 := Lib.hid hb2
          clear h2 hb2
          have HX : Hid (Mem Y false (bump b Y.k) (n + (S + 0 + Y.k) * d) w2) := by
            have := H5.out
            rw [show n + (S + 0 + Y.k) * d = n + S * d + Y.k * d by simp only [Nat.add_mul]; omega]
            exact this
          by_cases hvq : Q ≤ v
          · have HF : R = (v, 0, bump b Y.k, S + 0 + Y.k, i + 1) := by
              have := HS.out
              rw [waitR, HV.out, if_pos hvq, if_neg (by rintro (h | h); cases h; exact H8.out h)] at this
              exact this.symm
            have HF' := Lib.hid HF
            clear HF
            go_wp2
            go_ret2
            rw [HF'.out]
            exact ⟨rfl, HX.out, (B3.out.trans B4.out).trans B5.out⟩
          · have hvq2 : v < Q := by omega
            go_wp2
            go_roundw
            case rel =>
              refine ⟨i + 1, S + 0 + Y.k, bump b Y.k, by omega, by go_num, ?_, ?_, bump_le Hb.out, HX.out, (B3.out.trans B4.out).trans B5.out⟩
              · have := HS1.out 0; have := HSS.out; omega
              · have := HS.out
                rw [waitR, HV.out, if_neg (show ¬ Q ≤ v by omega), if_neg (by rintro (h | h); cases h; exact H8.out h)] at this
                rwa [show T - (i + 1) = T - i - 1 by omega]
            case measure => simp [intOf]; omega
      · obtain rfl : i = T := by omega
        have HF : R = (0, 4, b, S, i) := by
          have := HE.out
          rw [Nat.sub_self, waitR] at this
          exact this.symm
        have HF' := Lib.hid HF
        clear HF
        go_wp2
        go_ret2
        rw [HF'.out]
        exact ⟨rfl, H3.out, B3.out⟩
  · have c3 : 1024 ≤ T := by omega
    clear c2
    go_enter Try.func11, Try.ntmps11
    go_wp2
    go_loopw [43] (fun iv wr => ∃ (i : Nat) (S : Nat) (b : Nat → Nat), i ≤ T ∧ iv = .int .i64 i ∧ S ≤ i * (Y.k + 1) ∧ Hid (waitR Y true Q (T - i) i S b = R) ∧ Hid (∀ x, b x ≤ a x + i) ∧ Mem Y false b (n + S * d) wr ∧ Below Y.N w wr) (fun i _ => T - (intOf i).toNat)
    case atStart => exact ⟨0, 0, a, by omega, rfl, by omega, HR, fun x => by omega, by simpa using H0.out, Below.refl _ _⟩
    case round =>
      obtain ⟨i, S, b, hi, rfl, hS, HE, Hb, hM, hB⟩ := hrel
      have H3 := Lib.hid hM
      have B3 := Lib.hid hB
      clear hM hB
      by_cases hlt : i < T
      · have hik : i * (Y.k + 1) ≤ 1024 * 100001 := Nat.mul_le_mul (by omega) (by omega)
        have hSd : S * d ≤ S := by have := Nat.mul_le_mul_left S HI.out; omega
        have hs1 : ∀ x, S + x + Y.k ≤ (i + 1) * (Y.k + 1) ∨ 1 < x := by intro x; rw [Nat.add_mul]; omega
        have HS1 := Lib.hid hs1
        have CA := Lib.hid (HA.out b (n + S * d) wr (by omega) H3.out)
        have CL : Hid (∀ m w', m ≤ 1000000000000 → Mem Y false b m w' → Calls Try.prog 12 #[.pointer (some ⟨Y.bb, 0, none⟩), s] w' (Done Y (.int .i64 (lim (next Y b) (Y.k - 1))) false (bump b Y.k) (m + Y.k * d) w')) :=
          fun m w' hm h' => HL.out b m w' (fun x => by have := Hb.out x; have := Ha.out x; omega) (by omega) h'
        have HS : Hid (waitR Y true Q (T - i - 1 + 1) i S b = R) := by have := HE.out; rwa [show T - i - 1 + 1 = T - i by omega]
        have hSb : S ≤ 1100000000 := by omega
        clear hik hs1
        generalize hv : lim (next Y b) (Y.k - 1) = v at *
        have HV := Lib.hid hv
        have HSd := Lib.hid hSd
        have HSb := Lib.hid hSb
        have HSS := Lib.hid hS
        clear hv hSd hSb hS
        by_cases h8 : i % 8 = 0
        · have h8i : ((i : Int) % 8 == 0) = true := by rw [beq_iff_eq]; omega
          have H8 := Lib.hid h8
          clear h8
          go_wp2_with fail
          refine CA.out.mono ?_
          rintro e w1 ⟨rfl, h1, hb1⟩
          have H4 := Lib.hid h1
          have B4 := Lib.hid hb1
          clear h1 hb1
          go_wp2_with fail
          refine (CL.out _ _ (by have := HI.out; have := HSd.out; have := HSb.out; omega) H4.out).mono ?_
          rintro e w2 ⟨rfl, h2, hb2⟩
          have H5 := Lib.hid h2
          have B5 := Lib.hid hb2
          clear h2 hb2
          have HX : Hid (Mem Y false (bump b Y.k) (n + (S + 1 + Y.k) * d) w2) := by
            have := H5.out
            rw [show n + (S + 1 + Y.k) * d = n + S * d + d + Y.k * d by simp only [Nat.add_mul]; omega]
            exact this
          by_cases hvq : Q ≤ v
          · have HF : R = (v, 0, bump b Y.k, S + 1 + Y.k, i + 1) := by
              have := HS.out
              rw [waitR, HV.out, if_pos hvq, if_pos (.inr H8.out)] at this
              exact this.symm
            have HF' := Lib.hid HF
            clear HF
            go_wp2
            go_ret2
            rw [HF'.out]
            exact ⟨rfl, HX.out, (B3.out.trans B4.out).trans B5.out⟩
          · have hvq2 : v < Q := by omega
            go_wp2
            go_roundw
            case rel =>
              refine ⟨i + 1, S + 1 + Y.k, bump b Y.k, by omega, by go_num, ?_, ?_, bump_le Hb.out, HX.out, (B3.out.trans B4.out).trans B5.out⟩
              · have := HS1.out 1; have := HSS.out; omega
              · have := HS.out
                rw [waitR, HV.out, if_neg (show ¬ Q ≤ v by omega), if_pos (.inr H8.out)] at this
                rwa [show T - (i + 1) = T - i - 1 by omega]
            case measure => simp [intOf]; omega
        · have h8i : ((i : Int) % 8 == 0) = false := by rw [beq_eq_false_iff_ne]; omega
          have H8 := Lib.hid h8
          clear h8
          have B4 := Lib.hid (Below.refl Y.N wr)
          go_wp2_with fail
          refine (CL.out _ _ (by have := HSd.out; have := HSb.out; omega) H3.out).mono ?_
          rintro e w2 ⟨rfl, h2, hb2⟩
          have H5 := Lib.hid h2
          have B5 := Lib.hid hb2
          clear h2 hb2
          have HX : Hid (Mem Y false (bump b Y.k) (n + (S + 0 + Y.k) * d) w2) := by
            have := H5.out
            rw [show n + (S + 0 + Y.k) * d = n + S * d + Y.k * d by simp only [Nat.add_mul]; omega]
            exact this
          by_cases hvq : Q ≤ v
          · have HF : R = (v, 0, bump b Y.k, S + 0 + Y.k, i + 1) := by
              have := HS.out
              rw [waitR, HV.out, if_pos hvq, if_neg (by rintro (h | h); cases h; exact H8.out h)] at this
              exact this.symm
            have HF' := Lib.hid HF
            clear HF
            go_wp2
            go_ret2
            rw [HF'.out]
            exact ⟨rfl, HX.out, (B3.out.trans B4.out).trans B5.out⟩
          · have hvq2 : v < Q := by omega
            go_wp2
            go_roundw
            case rel =>
              refine ⟨i + 1, S + 0 + Y.k, bump b Y.k, by omega, by go_num, ?_, ?_, bump_le Hb.out, HX.out, (B3.out.trans B4.out).trans B5.out⟩
              · have := HS1.out 0; have := HSS.out; omega
              · have := HS.out
                rw [waitR, HV.out, if_neg (show ¬ Q ≤ v by omega), if_neg (by rintro (h | h); cases h; exact H8.out h)] at this
                rwa [show T - (i + 1) = T - i - 1 by omega]
            case measure => simp [intOf]; omega
      · obtain rfl : i = T := by omega
        have HF : R = (0, 4, b, S, i) := by
          have := HE.out
          rw [Nat.sub_self, waitR] at this
          exact this.symm
        have HF' := Lib.hid HF
        clear HF
        go_wp2
        go_ret2
        rw [HF'.out]
        exact ⟨rfl, H3.out, B3.out⟩
end Go.Proofs.Ytimkkeomdkbcjaa

/-
  The contract of the barrier's Wait: the lean way; a way that is none; no sources; the alarm raised. And what a nil or an empty barrier answers.
-/
namespace Go.Proofs.Ytimkkeomdkbcjaa
open Go.RowKit
set_option linter.unusedVariables false
variable {Y : Lay} {al : Bool} {a : Nat → Nat} {n : Nat} {w : World}

set_option maxRecDepth 100000 in
theorem wait_lean (h : Mem Y false a n w) (q : Bool) (hk : 1 ≤ Y.k) (Q tries : Int) (ha : ∀ i, a i ≤ 1000000) (hn : n ≤ 1000000) :
    Calls Try.prog 11 #[.pointer (some ⟨Y.bb, 0, none⟩), sv Y q, .int .i64 Q, .int .i64 tries, .int .i64 2] w (DoneL Y (leanR Y Q (clamp tries) 0 0 0 a) false n (inc q) w) := by
  have hkk := h.kk
  have hbar := bar_cell h (by omega)
  have hk0 : ((Y.k : Int) == 0) = false := by rw [beq_eq_false_iff_ne]; omega
  have C := Lib.hid (fun (t : Nat) (ht : t ≤ 1024) => lean_any h q hk Q t ht ha hn)
  clear h
  generalize sv Y q = s at *
  generalize inc q = d at *
  by_cases c1 : tries < 1
  · have e : clamp tries = 1 := by unfold clamp; rw [if_pos c1]
    rw [e]
    have C1 := Lib.hid (C.out 1 (by omega))
    clear C e
    go_enter Try.func11, Try.ntmps11
    go_wp2_with (go_at_call 22; refine C1.out.mono ?_; rintro e w' ⟨rfl, h1, hb1⟩; have H1 := Lib.hid h1; clear h1)
    go_ret2
    exact ⟨rfl, H1.out, hb1⟩
  · by_cases c2 : 1024 < tries
    · have e : clamp tries = 1024 := by unfold clamp; rw [if_neg c1, if_pos c2]
      rw [e]
      have C1 := Lib.hid (C.out 1024 (by omega))
      clear C e
      go_enter Try.func11, Try.ntmps11
      go_wp2_with (go_at_call 22; refine C1.out.mono ?_; rintro e w' ⟨rfl, h1, hb1⟩; have H1 := Lib.hid h1; clear h1)
      go_ret2
      exact ⟨rfl, H1.out, hb1⟩
    · obtain ⟨T, rfl⟩ := Int.eq_ofNat_of_zero_le (show 0 ≤ tries by omega)
      have e : clamp (T : Int) = T := by unfold clamp; rw [if_neg c1, if_neg c2]; simp
      rw [e]
      have C1 := Lib.hid (C.out T (by omega))
      have c3 : 1 ≤ (T : Int) := by omega
      have c4 : (T : Int) ≤ 1024 := by omega
      clear C e c1 c2
      go_enter Try.func11, Try.ntmps11
      go_wp2_with (go_at_call 22; refine C1.out.mono ?_; rintro e w' ⟨rfl, h1, hb1⟩; have H1 := Lib.hid h1; clear h1)
      go_ret2
      exact ⟨rfl, H1.out, hb1⟩

/-- A way that is none of the three, whatever the barrier. -/
theorem wait_kind (b s : Value) (Q tries way : Int) (hw : way < 1 ∨ 3 < way) (w : World) :
    Calls Try.prog 11 #[b, s, .int .i64 Q, .int .i64 tries, .int .i64 way] w fun e w' => e = .returned (.tuple #[.int .i64 0, .int .i64 2]) ∧ w = w' := by
  rcases hw with hw | hw
  · go_enter Try.func11, Try.ntmps11
    go_wp2
    go_ret2
    exact ⟨rfl, rfl⟩
  · have h1 : ¬ way < 1 := by omega
    go_enter Try.func11, Try.ntmps11
    go_wp2
    go_ret2
    exact ⟨rfl, rfl⟩

/-- A nil barrier. -/
theorem wait_nil (s : Value) (Q tries way : Int) (h1 : 1 ≤ way) (h3 : way ≤ 3) (w : World) :
    Calls Try.prog 11 #[.pointer none, s, .int .i64 Q, .int .i64 tries, .int .i64 way] w fun e w' => e = .returned (.tuple #[.int .i64 0, .int .i64 6]) ∧ w = w' := by
  go_enter Try.func11, Try.ntmps11
  go_wp2
  go_ret2
  exact ⟨rfl, rfl⟩

/-- A barrier without sources. -/
theorem wait_empty (b : Nat) (s : Value) (Q tries way : Int) (h1 : 1 ≤ way) (h3 : way ≤ 3) (w : World) (hc : w.cell? ⟨b, 0, none⟩ = some (.slice none 0 0)) :
    Calls Try.prog 11 #[.pointer (some ⟨b, 0, none⟩), s, .int .i64 Q, .int .i64 tries, .int .i64 way] w fun e w' => e = .returned (.tuple #[.int .i64 0, .int .i64 6]) ∧ w = w' := by
  go_enter Try.func11, Try.ntmps11
  go_wp2
  go_ret2
  exact ⟨rfl, rfl⟩

theorem limit_nil (s : Value) (w : World) : Calls Try.prog 12 #[.pointer none, s] w fun e w' => e = .returned (.int .i64 (-1)) ∧ w = w' := by
  go_enter Try.func12, Try.ntmps12
  go_wp2
  go_ret
  exact ⟨rfl, rfl⟩
theorem limit_empty (b : Nat) (s : Value) (w : World) (hc : w.cell? ⟨b, 0, none⟩ = some (.slice none 0 0)) : Calls Try.prog 12 #[.pointer (some ⟨b, 0, none⟩), s] w fun e w' => e = .returned (.int .i64 (-1)) ∧ w = w' := by
  go_enter Try.func12, Try.ntmps12
  go_wp2
  go_ret
  exact ⟨rfl, rfl⟩
theorem alert_nil (s : Value) (w : World) : Calls Try.prog 14 #[.pointer none, s] w fun e w' => e = .returned (.bool false) ∧ w = w' := by
  go_enter Try.func14, Try.ntmps14
  go_wp2
  go_ret
  exact ⟨rfl, rfl⟩
theorem clear_nil (s : Value) (w : World) : Calls Try.prog 15 #[.pointer none, s] w fun e w' => e = .returned (.bool false) ∧ w = w' := by
  go_enter Try.func15, Try.ntmps15
  go_wp2
  go_ret
  exact ⟨rfl, rfl⟩
theorem alerted_nil (s : Value) (w : World) : Calls Try.prog 13 #[.pointer none, s] w fun e w' => e = .returned (.bool false) ∧ w = w' := by
  go_enter Try.func13, Try.ntmps13
  go_wp2
  go_ret
  exact ⟨rfl, rfl⟩
end Go.Proofs.Ytimkkeomdkbcjaa

/-
  The contract of barrier.New: the sources that are not the nil interface, in order, in a row of the call's own.
-/
namespace Go.Proofs.Ytimkkeomdkbcjaa.W104
open Go.RowKit
set_option linter.unusedVariables false

theorem info32 : (Try.prog.info? 32).map (fun i => (i.zero, i.size, i.bytes)) = some (some .nilIface, 1, 16) := by kernel_rfl

/-- A source's value: the nil interface, or a pointer to a source of the statement's own. -/
def SrcV (x : Value) : Prop := x = .nilIface ∨ ∃ r, x = .iface 104 (.pointer (some ⟨r, 0, none⟩))
def isSrc : Value → Bool | .nilIface => false | _ => true
/-- the sources of a list -/
def srcs (X : List Value) : List Value := X.filter isSrc

theorem srcs_take {X : List Value} {j : Nat} (hj : j < X.length) : srcs (X.take (j + 1)) = srcs (X.take j) ++ (if isSrc (X.getD j .nilIface) then [X.getD j .nilIface] else []) := by
  rw [List.take_succ_eq_append_getElem hj]
  simp only [srcs, List.filter_append, List.filter_cons, List.filter_nil, List.getD_eq_getElem?_getD, List.getElem?_eq_getElem hj, Option.getD_some]

def DoneNew (F : List Value) (w : World) (e : Ending) (w' : World) : Prop :=
  ∃ bb v, e = .returned (.pointer (some ⟨bb, 0, none⟩)) ∧ w.heap.size ≤ bb ∧ w'.heap[bb]? = some (.cells #[v, .int .u32 0] 54 (0, 0)) ∧ w'.ownsRow w.heap.size 32 1 v F.length F ∧ Below w.heap.size w w'

theorem own_shape {w : World} {base e n : Nat} {v : Value} {xs : List Value} (h : w.ownsRow base e 1 v n xs) (hn : 0 < n) :
    ∃ g cap cur, v = .slice (some ⟨g, 0, none⟩) n cap ∧ base ≤ g ∧ n ≤ cap ∧ w.heap[g]? = some (.cells cur e (0, 0)) := by
  rcases h.2 with ⟨_, h0⟩ | ⟨g, cap, cur, rfl, hb, hg, hc, _⟩
  · omega
  · exact ⟨g, cap, cur, rfl, hb, hc, hg⟩

/-- One round of New's loop, in worlds: the element is appended, the field is written. -/
theorem new_step {w0 wr w1 : World} {bb g13 c13 n : Nat} {v v' : Value} {X F : List Value} {x : Value} {N : Nat}
    (hbb : wr.heap[bb]? = some (.cells #[v, .int .u32 0] 54 (0, 0))) (hown : wr.ownsRow N 32 1 v F.length F) (h13 : wr.ownsRow N 32 1 (.slice (some ⟨g13, 0, none⟩) n c13) n X)
    (hne : v.ownBlock ≠ some g13) (hB : Below N w0 wr) (hN : N ≤ bb) (hNw : N ≤ wr.heap.size)
    (ha : Appended (wr.alloc (.cells #[x] 32)) N 32 v F.length 1 (F ++ [x]) v' w1) :
    ∃ g cap, v' = .slice (some ⟨g, 0, none⟩) (F.length + 1) cap ∧ v'.ownBlock ≠ some g13 ∧ w1.heap[bb]? = some (.cells #[v, .int .u32 0] 54 (0, 0)) ∧ (w1.setCell ⟨bb, 0, none⟩ v').heap[bb]? = some (.cells #[v', .int .u32 0] 54 (0, 0)) ∧ (w1.setCell ⟨bb, 0, none⟩ v').ownsRow N 32 1 v' (F ++ [x]).length (F ++ [x]) ∧
      (w1.setCell ⟨bb, 0, none⟩ v').ownsRow N 32 1 (.slice (some ⟨g13, 0, none⟩) n c13) n X ∧ Below N w0 (w1.setCell ⟨bb, 0, none⟩ v') ∧ N ≤ (w1.setCell ⟨bb, 0, none⟩ v').heap.size := by
  obtain ⟨hown1, hg1, hsh⟩ := ha
  have hlt : bb < wr.heap.size := (Array.getElem?_eq_some_iff.1 hbb).1
  have hvb : some bb ≠ v.ownBlock := by
    intro e
    rcases hown.2 with ⟨rfl, _⟩ | ⟨g, cap, cur, rfl, _, hgg, _⟩
    · simp [Value.ownBlock] at e
    · simp [Value.ownBlock] at e
      subst e
      rw [hbb] at hgg; simp at hgg
  have h1 : w1.heap[bb]? = some (.cells #[v, .int .u32 0] 54 (0, 0)) := by
    rw [hg1.block bb (by simp; omega) hvb, Below.heap_alloc _ _ _ hlt]; exact hbb
  have h2 := set_at h1 0 v'
  simp at h2
  have h13' : w1.ownsRow N 32 1 (.slice (some ⟨g13, 0, none⟩) n c13) n X := (h13.alloc _).kept hg1 (.inr (by simpa [Value.ownBlock] using fun e => hne e.symm))
  have other : ∀ (u : Value) (m : Nat) (ys : List Value), w1.ownsRow N 32 1 u m ys → (w1.setCell ⟨bb, 0, none⟩ v').ownsRow N 32 1 u m ys := by
    intro u m ys hu
    refine ownsRow_setCell_other hu ?_ v'
    intro e
    rcases hu.2 with ⟨rfl, _⟩ | ⟨g, cap, cur, rfl, _, hgg, _⟩
    · simp [Value.ownBlock] at e
    · simp [Value.ownBlock] at e
      subst e
      rw [h1] at hgg; simp at hgg
  rcases hsh with ⟨_, _, h0, _⟩ | ⟨g, cap, rfl, hcap, hwhere⟩
  · cases h0
  · refine ⟨g, cap, rfl, ?_, h1, h2, ?_, other _ _ _ h13', ?_, ?_⟩
    · simp only [Value.ownBlock, ne_eq, Option.some.injEq]
      rcases hwhere with hw | hw
      · rintro rfl; exact hne hw
      · rintro rfl
        have := (h13.lt g rfl).2
        simp at hw
        omega
    · have := other _ _ _ hown1
      simpa using this
    · exact ((hB.alloc hNw _).grown hg1 (by simp; omega) (fun k hk => (hown.lt k hk).1)).setCell hN _
    · have := hg1.size
      simp at this
      simp [World.setCell]
      omega

/-- The loop of New, from its head on: the memory at the head of a round. -/
structure Head (w0 : World) (N bb g13 c13 : Nat) (X : List Value) (j : Nat) (v : Value) (wr : World) : Prop where
  bar : wr.heap[bb]? = some (.cells #[v, .int .u32 0] 54 (0, 0))
  own : wr.ownsRow N 32 1 v (srcs (X.take j)).length (srcs (X.take j))
  all : wr.ownsRow N 32 1 (.slice (some ⟨g13, 0, none⟩) X.length c13) X.length X
  ne : v.ownBlock ≠ some g13
  low : Below N w0 wr
  nb : N ≤ bb
  nw : N ≤ wr.heap.size

theorem Head.skip {w0 : World} {N bb g13 c13 : Nat} {X : List Value} {j : Nat} {v : Value} {wr : World} (h : Head w0 N bb g13 c13 X j v wr) (hj : j < X.length) (hx : X.getD j .nilIface = .nilIface) : Head w0 N bb g13 c13 X (j + 1) v wr := by
  refine { h with own := ?_ }
  rw [srcs_take hj, hx]
  simpa [isSrc] using h.own

theorem Head.took {w0 : World} {N bb g13 c13 : Nat} {X : List Value} {j : Nat} {v v' : Value} {wr w1 : World} (h : Head w0 N bb g13 c13 X j v wr) (hj : j < X.length) (r : Nat) (hx : X.getD j .nilIface = .iface 104 (.pointer (some ⟨r, 0, none⟩)))
    (ha : Appended (wr.alloc (.cells #[.iface 104 (.pointer (some ⟨r, 0, none⟩))] 32)) N 32 v (srcs (X.take j)).length 1 (srcs (X.take j) ++ [.iface 104 (.pointer (some ⟨r, 0, none⟩))]) v' w1) :
    ∃ g cap, v' = .slice (some ⟨g, 0, none⟩) ((srcs (X.take j)).length + 1) cap ∧ w1.cell? ⟨bb, 0, none⟩ = some v ∧ w1.frozen? ⟨bb, 0, none⟩ = false ∧ Head w0 N bb g13 c13 X (j + 1) v' (w1.setCell ⟨bb, 0, none⟩ v') := by
  obtain ⟨g, cap, h1, h2, h3, h4, h5, h6, h7, h8⟩ := new_step h.bar h.own h.all h.ne h.low h.nb h.nw ha
  refine ⟨g, cap, h1, by rw [cell_of h3]; rfl, free_of h3 0, h4, ?_, h6, h2, h7, h.nb, h8⟩
  rw [srcs_take hj, hx]
  simpa [isSrc] using h5

theorem Head.elem {w0 : World} {N bb g13 c13 : Nat} {X : List Value} {j : Nat} {v : Value} {wr : World} (h : Head w0 N bb g13 c13 X j v wr) (hj : j < X.length) : wr.cell? ⟨g13, j, none⟩ = some (X.getD j .nilIface) := by
  rw [h.all.cellAt j (by omega)]
  simp [List.getD_eq_getElem?_getD, List.getElem?_eq_getElem hj]

set_option maxRecDepth 100000 in
set_option maxHeartbeats 1000000 in
theorem new_nil (B : Value) (Bs : List Value) (w : World) (hB : SrcOf w B Bs.length Bs) (hS : ∀ x ∈ Bs, SrcV x) (hlen : Bs.length ≤ 1000000) :
    Calls Try.prog 10 #[.nilIface, B] w (DoneNew (srcs (.nilIface :: Bs)) w) := by
  obtain ⟨i0, hi, hz0, hz1, hz2⟩ := info_parts info32
  have HS : Hid (∀ j, j < (.nilIface :: Bs).length → SrcV ((.nilIface :: Bs).getD j .nilIface)) := by
    intro j hj
    rw [List.getD_eq_getElem?_getD, List.getElem?_eq_getElem hj, Option.getD_some]
    rcases List.mem_cons.1 (List.getElem_mem hj) with h | h
    · rw [h]; exact .inl rfl
    · exact hS _ h
  have HB := Lib.hid hB
  clear hS hB
  have HO : Hid (∀ o : Obj, ((w.alloc o).alloc (.cells #[.nilIface] 32)).ownsRow w.heap.size 32 1 (.slice (some ⟨w.heap.size + 1, 0, none⟩) 1 1) 1 [.nilIface]) := by
    intro o
    have := World.ownsRow_lit (base := w.heap.size) (e := 32) (size := 1) (w.alloc o) #[.nilIface] 1 (by simp) (by decide) rfl
    simpa using this
  have HS2 : Hid (∀ o o' : Obj, SrcOf ((w.alloc o).alloc o') B Bs.length Bs) := by
    intro o o'
    obtain ⟨h1, h2, h3⟩ := HB.out
    refine ⟨h1, h2, ?_⟩
    rcases h3 with h3 | ⟨ad, c, rfl, h4⟩
    · exact .inl h3
    · refine .inr ⟨ad, c, rfl, fun j u hu => ?_⟩
      have hb : (ad.add j).block < w.heap.size := World.block_lt_of_cell? w _ (h4 j u hu)
      rw [World.cell?_of_block (w := w)]
      · exact h4 j u hu
      · rw [Below.heap_alloc _ _ _ (by simp; omega), Below.heap_alloc _ _ _ hb]
  have HL : Hid (∀ v13 w1, Appended ((w.alloc (.cells #[.slice none 0 0, .int .u32 0] 54)).alloc (.cells #[.nilIface] 32)) w.heap.size 32 (.slice (some ⟨w.heap.size + 1, 0, none⟩) 1 1) 1 Bs.length ([.nilIface] ++ Bs) v13 w1 →
      ∃ g cap, v13 = .slice (some ⟨g, 0, none⟩) (Bs.length + 1) cap ∧ Bs.length + 1 ≤ cap ∧ Head w w.heap.size w.heap.size g cap (.nilIface :: Bs) 0 (.slice none 0 0) w1) := by
    intro v13 w1 ⟨h1, h2, h3⟩
    have hbar : w1.heap[w.heap.size]? = some (.cells #[.slice none 0 0, .int .u32 0] 54 (0, 0)) := by
      rw [h2.block w.heap.size (by simp; omega) (by simp [Value.ownBlock])]
      rw [Below.heap_alloc _ _ _ (by simp)]
      exact heap_alloc_new w _
    rcases h3 with ⟨_, h, _⟩ | ⟨g, cap, rfl, hc, _⟩
    · cases h
    · refine ⟨g, cap, by rw [Nat.add_comm], by omega, hbar, World.ownsRow_nil _ _ _ _, by simpa [Nat.add_comm] using h1, by simp [Value.ownBlock], ?_, Nat.le_refl _, ?_⟩
      · exact ((((Below.refl _ _).alloc (Nat.le_refl _) _).alloc (by simp) _).grown h2 (by simp; omega) (by simp [Value.ownBlock]))
      · have := h2.size; simp at this; omega
  clear HB
  generalize hb : w.heap.size = b at *
  go_enter Try.func10, Try.ntmps10
  go_wp2_with (at_builtin; go_must (refine wpList_append_row rfl (.tmp 11) (.tmp 12) 25 rfl b 32 i0 .nilIface 16 Try.underlying25 hi hz0 hz1 hz2 rfl (.slice (some ⟨b + 1, 0, none⟩) 1 1) 1 [.nilIface] ?e1 (HO.out _) Bs.length Bs (HS2.out _ _) ?l1 ?b1 ?n1 ?_); go_must (case e1 => (first | rfl | (simp [Act.eval, hb]))); go_must (case l1 => (unfold maxLen; omega)); go_must (case b1 => omega); go_must (case n1 => (first | (simp [hb]; done) | (simp [hb]; omega) | omega)); intro v13 w1 ha; obtain ⟨g13, c13, rfl, hc13, hh⟩ := HL.out _ _ ha)
  go_loopw [15] (fun jv wr => ∃ (j : Nat) (v : Value), j ≤ Bs.length + 1 ∧ jv = .int .i64 j ∧ Head w b b g13 c13 (.nilIface :: Bs) j v wr) (fun jv _ => Bs.length + 1 - (intOf jv).toNat)
  case atStart => exact ⟨0, _, by omega, rfl, hh⟩
  case round =>
    obtain ⟨j, v, hj, rfl, hH⟩ := hrel
    have H1 := Lib.hid hH
    have hbar : wr.cell? ⟨b, 0, none⟩ = some v := by rw [cell_of hH.bar]; rfl
    have hfr := free_of hH.bar 0
    have hle : (srcs ((.nilIface :: Bs).take j)).length ≤ 1000001 := by
      have := List.length_filter_le isSrc ((.nilIface :: Bs).take j)
      have h2 := List.length_take_le j (.nilIface :: Bs)
      unfold srcs; omega
    clear hH
    by_cases hlt : j < Bs.length + 1
    · have hel := H1.out.elem (show j < (.nilIface :: Bs).length by simpa using hlt)
      rcases HS.out j (by simpa using hlt) with hx | ⟨r, hx⟩
      · rw [hx] at hel
        have HX := Lib.hid hx
        clear hx
        go_wp2
        go_roundw
        case rel => exact ⟨j + 1, v, by omega, by go_num, H1.out.skip (by simpa using hlt) HX.out⟩
        case measure => simp [intOf]; omega
      · rw [hx] at hel
        have HX := Lib.hid hx
        clear hx
        have HSx : Hid (SrcOf (wr.alloc (.cells #[.iface 104 (.pointer (some ⟨r, 0, none⟩))] 32)) (.slice (some ⟨wr.heap.size, 0, none⟩) 1 1) 1 [.iface 104 (.pointer (some ⟨r, 0, none⟩))]) :=
          ⟨rfl, by intro u hu; simp at hu; subst hu; rfl, .inr ⟨⟨wr.heap.size, 0, none⟩, 1, rfl, cell_one_new _ _ _⟩⟩
        have HT := Lib.hid (fun v' w1 ha => H1.out.took (v' := v') (w1 := w1) (by simpa using hlt) r HX.out ha)
        have HO2 := Lib.hid (H1.out.own.alloc (.cells #[.iface 104 (.pointer (some ⟨r, 0, none⟩))] 32))
        have HNW := Lib.hid H1.out.nw
        generalize hF : srcs ((.nilIface :: Bs).take j) = F at *
        have HF := Lib.hid hF
        clear hF
        go_wp2_with (at_builtin; go_must (refine wpList_append_row rfl (.tmp 25) (.tmp 27) 25 rfl b 32 i0 .nilIface 16 Try.underlying25 hi hz0 hz1 hz2 rfl v F.length F rfl HO2.out 1 [.iface 104 (.pointer (some ⟨r, 0, none⟩))] HSx.out ?l2 ?b2 ?n2 ?_); go_must (case l2 => (unfold maxLen; omega)); go_must (case b2 => omega); go_must (case n2 => (have := HNW.out; simp; omega)); intro v' w1 ha; go_must (obtain ⟨g, cap, rfl, hcell, hfz, hH2⟩ := HT.out _ _ ha); have HH := Lib.hid hH2; clear hH2 ha)
        go_roundw
        case rel => exact ⟨j + 1, _, by omega, by go_num, HH.out⟩
        case measure => simp [intOf]; omega
    · obtain rfl : j = Bs.length + 1 := by omega
      have HT : Hid ((.nilIface :: Bs).take (Bs.length + 1) = .nilIface :: Bs) := List.take_of_length_le (by simp)
      go_wp2
      go_ret
      have h2 := H1.out.own
      rw [HT.out] at h2
      exact ⟨b, v, rfl, by omega, H1.out.bar, by rw [hb]; exact h2, by rw [hb]; exact H1.out.low⟩
set_option maxRecDepth 100000 in
set_option maxHeartbeats 1000000 in
theorem new_src (r0 : Nat) (B : Value) (Bs : List Value) (w : World) (hB : SrcOf w B Bs.length Bs) (hS : ∀ x ∈ Bs, SrcV x) (hlen : Bs.length ≤ 1000000) :
    Calls Try.prog 10 #[(.iface 104 (.pointer (some ⟨r0, 0, none⟩))), B] w (DoneNew (srcs ((.iface 104 (.pointer (some ⟨r0, 0, none⟩))) :: Bs)) w) := by
  obtain ⟨i0, hi, hz0, hz1, hz2⟩ := info_parts info32
  have HS : Hid (∀ j, j < ((.iface 104 (.pointer (some ⟨r0, 0, none⟩))) :: Bs).length → SrcV (((.iface 104 (.pointer (some ⟨r0, 0, none⟩))) :: Bs).getD j .nilIface)) := by
    intro j hj
    rw [List.getD_eq_getElem?_getD, List.getElem?_eq_getElem hj, Option.getD_some]
    rcases List.mem_cons.1 (List.getElem_mem hj) with h | h
    · rw [h]; exact .inr ⟨r0, rfl⟩
    · exact hS _ h
  have HB := Lib.hid hB
  clear hS hB
  have HO : Hid (∀ o : Obj, ((w.alloc o).alloc (.cells #[(.iface 104 (.pointer (some ⟨r0, 0, none⟩)))] 32)).ownsRow w.heap.size 32 1 (.slice (some ⟨w.heap.size + 1, 0, none⟩) 1 1) 1 [(.iface 104 (.pointer (some ⟨r0, 0, none⟩)))]) := by
    intro o
    have := World.ownsRow_lit (base := w.heap.size) (e := 32) (size := 1) (w.alloc o) #[(.iface 104 (.pointer (some ⟨r0, 0, none⟩)))] 1 (by simp) (by decide) rfl
    simpa using this
  have HS2 : Hid (∀ o o' : Obj, SrcOf ((w.alloc o).alloc o') B Bs.length Bs) := by
    intro o o'
    obtain ⟨h1, h2, h3⟩ := HB.out
    refine ⟨h1, h2, ?_⟩
    rcases h3 with h3 | ⟨ad, c, rfl, h4⟩
    · exact .inl h3
    · refine .inr ⟨ad, c, rfl, fun j u hu => ?_⟩
      have hb : (ad.add j).block < w.heap.size := World.block_lt_of_cell? w _ (h4 j u hu)
      rw [World.cell?_of_block (w := w)]
      · exact h4 j u hu
      · rw [Below.heap_alloc _ _ _ (by simp; omega), Below.heap_alloc _ _ _ hb]
  have HL : Hid (∀ v13 w1, Appended ((w.alloc (.cells #[.slice none 0 0, .int .u32 0] 54)).alloc (.cells #[(.iface 104 (.pointer (some ⟨r0, 0, none⟩)))] 32)) w.heap.size 32 (.slice (some ⟨w.heap.size + 1, 0, none⟩) 1 1) 1 Bs.length ([(.iface 104 (.pointer (some ⟨r0, 0, none⟩)))] ++ Bs) v13 w1 →
      ∃ g cap, v13 = .slice (some ⟨g, 0, none⟩) (Bs.length + 1) cap ∧ Bs.length + 1 ≤ cap ∧ Head w w.heap.size w.heap.size g cap ((.iface 104 (.pointer (some ⟨r0, 0, none⟩))) :: Bs) 0 (.slice none 0 0) w1) := by
    intro v13 w1 ⟨h1, h2, h3⟩
    have hbar : w1.heap[w.heap.size]? = some (.cells #[.slice none 0 0, .int .u32 0] 54 (0, 0)) := by
      rw [h2.block w.heap.size (by simp; omega) (by simp [Value.ownBlock])]
      rw [Below.heap_alloc _ _ _ (by simp)]
      exact heap_alloc_new w _
    rcases h3 with ⟨_, h, _⟩ | ⟨g, cap, rfl, hc, _⟩
    · cases h
    · refine ⟨g, cap, by rw [Nat.add_comm], by omega, hbar, World.ownsRow_nil _ _ _ _, by simpa [Nat.add_comm] using h1, by simp [Value.ownBlock], ?_, Nat.le_refl _, ?_⟩
      · exact ((((Below.refl _ _).alloc (Nat.le_refl _) _).alloc (by simp) _).grown h2 (by simp; omega) (by simp [Value.ownBlock]))
      · have := h2.size; simp at this; omega
  clear HB
  generalize hb : w.heap.size = b at *
  go_enter Try.func10, Try.ntmps10
  go_wp2_with (at_builtin; go_must (refine wpList_append_row rfl (.tmp 11) (.tmp 12) 25 rfl b 32 i0 .nilIface 16 Try.underlying25 hi hz0 hz1 hz2 rfl (.slice (some ⟨b + 1, 0, none⟩) 1 1) 1 [(.iface 104 (.pointer (some ⟨r0, 0, none⟩)))] ?e1 (HO.out _) Bs.length Bs (HS2.out _ _) ?l1 ?b1 ?n1 ?_); go_must (case e1 => (first | rfl | (simp [Act.eval, hb]))); go_must (case l1 => (unfold maxLen; omega)); go_must (case b1 => omega); go_must (case n1 => (first | (simp [hb]; done) | (simp [hb]; omega) | omega)); intro v13 w1 ha; obtain ⟨g13, c13, rfl, hc13, hh⟩ := HL.out _ _ ha)
  go_loopw [15] (fun jv wr => ∃ (j : Nat) (v : Value), j ≤ Bs.length + 1 ∧ jv = .int .i64 j ∧ Head w b b g13 c13 ((.iface 104 (.pointer (some ⟨r0, 0, none⟩))) :: Bs) j v wr) (fun jv _ => Bs.length + 1 - (intOf jv).toNat)
  case atStart => exact ⟨0, _, by omega, rfl, hh⟩
  case round =>
    obtain ⟨j, v, hj, rfl, hH⟩ := hrel
    have H1 := Lib.hid hH
    have hbar : wr.cell? ⟨b, 0, none⟩ = some v := by rw [cell_of hH.bar]; rfl
    have hfr := free_of hH.bar 0
    have hle : (srcs (((.iface 104 (.pointer (some ⟨r0, 0, none⟩))) :: Bs).take j)).length ≤ 1000001 := by
      have := List.length_filter_le isSrc (((.iface 104 (.pointer (some ⟨r0, 0, none⟩))) :: Bs).take j)
      have h2 := List.length_take_le j ((.iface 104 (.pointer (some ⟨r0, 0, none⟩))) :: Bs)
      unfold srcs; omega
    clear hH
    by_cases hlt : j < Bs.length + 1
    · have hel := H1.out.elem (show j < ((.iface 104 (.pointer (some ⟨r0, 0, none⟩))) :: Bs).length by simpa using hlt)
      rcases HS.out j (by simpa using hlt) with hx | ⟨r, hx⟩
      · rw [hx] at hel
        have HX := Lib.hid hx
        clear hx
        go_wp2
        go_roundw
        case rel => exact ⟨j + 1, v, by omega, by go_num, H1.out.skip (by simpa using hlt) HX.out⟩
        case measure => simp [intOf]; omega
      · rw [hx] at hel
        have HX := Lib.hid hx
        clear hx
        have HSx : Hid (SrcOf (wr.alloc (.cells #[.iface 104 (.pointer (some ⟨r, 0, none⟩))] 32)) (.slice (some ⟨wr.heap.size, 0, none⟩) 1 1) 1 [.iface 104 (.pointer (some ⟨r, 0, none⟩))]) :=
          ⟨rfl, by intro u hu; simp at hu; subst hu; rfl, .inr ⟨⟨wr.heap.size, 0, none⟩, 1, rfl, cell_one_new _ _ _⟩⟩
        have HT := Lib.hid (fun v' w1 ha => H1.out.took (v' := v') (w1 := w1) (by simpa using hlt) r HX.out ha)
        have HO2 := Lib.hid (H1.out.own.alloc (.cells #[.iface 104 (.pointer (some ⟨r, 0, none⟩))] 32))
        have HNW := Lib.hid H1.out.nw
        generalize hF : srcs (((.iface 104 (.pointer (some ⟨r0, 0, none⟩))) :: Bs).take j) = F at *
        have HF := Lib.hid hF
        clear hF
        go_wp2_with (at_builtin; go_must (refine wpList_append_row rfl (.tmp 25) (.tmp 27) 25 rfl b 32 i0 .nilIface 16 Try.underlying25 hi hz0 hz1 hz2 rfl v F.length F rfl HO2.out 1 [.iface 104 (.pointer (some ⟨r, 0, none⟩))] HSx.out ?l2 ?b2 ?n2 ?_); go_must (case l2 => (unfold maxLen; omega)); go_must (case b2 => omega); go_must (case n2 => (have := HNW.out; simp; omega)); intro v' w1 ha; go_must (obtain ⟨g, cap, rfl, hcell, hfz, hH2⟩ := HT.out _ _ ha); have HH := Lib.hid hH2; clear hH2 ha)
        go_roundw
        case rel => exact ⟨j + 1, _, by omega, by go_num, HH.out⟩
        case measure => simp [intOf]; omega
    · obtain rfl : j = Bs.length + 1 := by omega
      have HT : Hid (((.iface 104 (.pointer (some ⟨r0, 0, none⟩))) :: Bs).take (Bs.length + 1) = (.iface 104 (.pointer (some ⟨r0, 0, none⟩))) :: Bs) := List.take_of_length_le (by simp)
      go_wp2
      go_ret
      have h2 := H1.out.own
      rw [HT.out] at h2
      exact ⟨b, v, rfl, by omega, H1.out.bar, by rw [hb]; exact h2, by rw [hb]; exact H1.out.low⟩

theorem new_any (c0 : Value) (h0 : SrcV c0) (B : Value) (Bs : List Value) (w : World) (hB : SrcOf w B Bs.length Bs) (hS : ∀ x ∈ Bs, SrcV x) (hlen : Bs.length ≤ 1000000) :
    Calls Try.prog 10 #[c0, B] w (DoneNew (srcs (c0 :: Bs)) w) := by
  rcases h0 with rfl | ⟨r, rfl⟩
  · exact new_nil B Bs w hB hS hlen
  · exact new_src r B Bs w hB hS hlen
end Go.Proofs.Ytimkkeomdkbcjaa.W104
