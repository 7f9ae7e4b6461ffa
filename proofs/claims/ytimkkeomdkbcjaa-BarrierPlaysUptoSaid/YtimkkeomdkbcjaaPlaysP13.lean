/-
  Merged out of: Fen5 Fen6. No condition of its own.
-/
import Derived.Test.YtimkkeomdkbcjaaPlaysP12
set_option linter.unusedVariables false
set_option linter.unusedSimpArgs false
/-
  The fenced twin of Wait: which functions are entered. No condition of its own.
-/
namespace Go.Proofs.Ytimkkeomdkbcjaa.FF
open Go.RowKit
variable {Y : Lay} {al : Bool} {a : Nat → Nat} {n : Nat} {w : World}
theorem limitM (h : Mem Y al a n w) (q : Bool) (hk : 1 ≤ Y.k) (ha : ∀ i, a i ≤ 1000000000000000) (hn : n + Y.k ≤ 1000000000000000) :
    CallsIn (Fence.list [9, 10, 11, 12, 13, 22, 23, 39, 40, 52, 54, 87, 88] none) 0 Try.prog 12 #[.pointer (some ⟨Y.bb, 0, none⟩), sv Y q] w (Done Y (.int .i64 (lim (next Y a) (Y.k - 1))) al (bump a Y.k) (n + Y.k * inc q) w) := by
  by_cases h1 : Y.k = 1
  · have := limit_one h q h1 (ha 0) (by omega)
    rw [h1]; simpa using this
  · exact limit_many h q (by omega) (fun i _ => ha i) hn
set_option maxRecDepth 100000 in
set_option maxHeartbeats 4000000 in
theorem wait_eager (h : Mem Y false a n w) (q : Bool) (hk : 1 ≤ Y.k) (hk6 : Y.k ≤ 100000) (Q tries : Int) (ha : ∀ i, a i ≤ 1000000) (hn : n ≤ 1000000) :
    CallsIn (Fence.list [9, 10, 11, 12, 13, 22, 23, 39, 40, 52, 54, 87, 88] none) 0 Try.prog 11 #[.pointer (some ⟨Y.bb, 0, none⟩), sv Y q, .int .i64 Q, .int .i64 tries, .int .i64 1] w (DoneW Y (waitR Y false Q (clamp tries) 0 0 a) false n (inc q) w) := by
  have hkk := h.kk
  have hbar := bar_cell h (by omega)
  have hi : inc q ≤ 1 := by cases q <;> simp [inc]
  have HA : Hid (∀ (b : Nat → Nat) (m : Nat) (w' : World), m ≤ 1000000000 → Mem Y false b m w' → CallsIn (Fence.list [9, 10, 11, 12, 13, 22, 23, 39, 40, 52, 54, 87, 88] none) 0 Try.prog 13 #[.pointer (some ⟨Y.bb, 0, none⟩), sv Y q] w' (Done Y (.bool false) false b (m + inc q) w')) :=
    fun b m w' hm h' => alerted h' q (by omega)
  have HL : Hid (∀ (b : Nat → Nat) (m : Nat) (w' : World), (∀ x, b x ≤ 1000000000) → m + Y.k ≤ 1000000000000000 → Mem Y false b m w' → CallsIn (Fence.list [9, 10, 11, 12, 13, 22, 23, 39, 40, 52, 54, 87, 88] none) 0 Try.prog 12 #[.pointer (some ⟨Y.bb, 0, none⟩), sv Y q] w' (Done Y (.int .i64 (lim (next Y b) (Y.k - 1))) false (bump b Y.k) (m + Y.k * inc q) w')) :=
    fun b m w' hb hm h' => limitM h' q hk (fun x => by have := hb x; omega) hm
  have hk0 : ((Y.k : Int) == 0) = false := by rw [beq_eq_false_iff_ne]; omega
  have H0 := Lib.hid h
  have Ha := Lib.hid ha
  have HI := Lib.hid hi
  clear h ha hi
  obtain ⟨T, hTe⟩ : ∃ T, T = clamp tries := ⟨_, rfl⟩
  have hT1 : 1 ≤ T ∧ T ≤ 1024 := by rw [hTe]; exact clamp_le tries
  rw [← hTe]
  generalize hR : waitR Y false Q T 0 0 a = R
  have HR := Lib.hid hR
  clear hR
  have hcl : (tries < 1 ∧ T = 1) ∨ (1 ≤ tries ∧ tries ≤ 1024 ∧ tries = (T : Int)) ∨ (1024 < tries ∧ T = 1024) := by
    rw [hTe]; unfold clamp; split <;> (try split) <;> omega
  clear hTe
  generalize sv Y q = s at *
  generalize inc q = d at *
  obtain ⟨hT1, hT2⟩ := hT1
  have CW : Hid (∀ (P : Nat → World → Prop) , True) := fun _ => trivial
  rcases hcl with ⟨c1, c2⟩ | ⟨c1, c2, rfl⟩ | ⟨c1, c2⟩
  · have c3 : T ≤ 1 := by omega
    clear c2
    gi_enter Try.func11, Try.ntmps11
    gi_wp2
    gi_loopw [43] (fun iv wr => ∃ (i : Nat) (S : Nat) (b : Nat → Nat), i ≤ T ∧ iv = .int .i64 i ∧ S ≤ i * (Y.k + 1) ∧ Hid (waitR Y false Q (T - i) i S b = R) ∧ Hid (∀ x, b x ≤ a x + i) ∧ Mem Y false b (n + S * d) wr ∧ Below Y.N w wr) (fun i _ => T - (intOf i).toNat)
    case atStart => exact ⟨0, 0, a, by omega, rfl, by omega, HR, fun x => by omega, by simpa using H0.out, Below.refl _ _⟩
    case round =>
      obtain ⟨i, S, b, hi, rfl, hS, HE, Hb, hM, hB⟩ := hrel
      have H3 := Lib.hid hM
      have B3 := Lib.hid hB
      clear hM hB
      by_cases hlt : i < T
      · have hik : i * (Y.k + 1) ≤ 1024 * 100001 := Nat.mul_le_mul (by omega) (by omega)
        have hSd : S * d ≤ S := by have := Nat.mul_le_mul_left S HI.out; omega
        have hs1 : ∀ x, S + x + Y.k ≤ (i + 1) * (Y.k + 1) ∨ 1 < x := by intro x; rw [Nat.add_mul]; omega
        have HS1 := Lib.hid hs1
        have CA := Lib.hid (HA.out b (n + S * d) wr (by omega) H3.out)
        have CL : Hid (∀ m w', m ≤ 1000000000000 → Mem Y false b m w' → CallsIn (Fence.list [9, 10, 11, 12, 13, 22, 23, 39, 40, 52, 54, 87, 88] none) 0 Try.prog 12 #[.pointer (some ⟨Y.bb, 0, none⟩), s] w' (Done Y (.int .i64 (lim (next Y b) (Y.k - 1))) false (bump b Y.k) (m + Y.k * d) w')) :=
          fun m w' hm h' => HL.out b m w' (fun x => by have := Hb.out x; have := Ha.out x; omega) (by omega) h'
        have HS : Hid (waitR Y false Q (T - i - 1 + 1) i S b = R) := by have := HE.out; rwa [show T - i - 1 + 1 = T - i by omega]
        have hSb : S ≤ 1100000000 := by omega
        clear hik hs1
        generalize hv : lim (next Y b) (Y.k - 1) = v at *
        have HV := Lib.hid hv
        have HSd := Lib.hid hSd
        have HSb := Lib.hid hSb
        have HSS := Lib.hid hS
        clear hv hSd hSb hS
        gi_wp2_with fail
        refine CA.out.mono ?_
        rintro e w1 ⟨rfl, h1, hb1⟩
        have H4 := Lib.hid h1
        have B4 := Lib.hid hb1
        clear h1 hb1
        gi_wp2_with fail
        refine (CL.out _ _ (by have := HI.out; have := HSd.out; have := HSb.out; omega) H4.out).mono ?_
        rintro e w2 ⟨rfl, h2, hb2⟩
        have H5 := Lib.hid h2
        have B5 := Lib.hid hb2
        clear h2 hb2
        have HX : Hid (Mem Y false (bump b Y.k) (n + (S + 1 + Y.k) * d) w2) := by
          have := H5.out
          rw [show n + (S + 1 + Y.k) * d = n + S * d + d + Y.k * d by simp only [Nat.add_mul]; omega]
          exact this
        by_cases hvq : Q ≤ v
        · have HF : R = (v, 0, bump b Y.k, S + 1 + Y.k, i + 1) := by
            have := HS.out
            rw [waitR, HV.out, if_pos hvq, if_pos (.inl rfl)] at this
            exact this.symm
          have HF' := Lib.hid HF
          clear HF
          gi_wp2
          go_ret2
          rw [HF'.out]
          exact ⟨rfl, HX.out, (B3.out.trans B4.out).trans B5.out⟩
        · have hvq2 : v < Q := by omega
          gi_wp2
          go_roundw
          case rel =>
            refine ⟨i + 1, S + 1 + Y.k, bump b Y.k, by omega, by go_num, ?_, ?_, bump_le Hb.out, HX.out, (B3.out.trans B4.out).trans B5.out⟩
            · have := HS1.out 1; have := HSS.out; omega
            · have := HS.out
              rw [waitR, HV.out, if_neg (show ¬ Q ≤ v by omega), if_pos (.inl rfl)] at this
              rwa [show T - (i + 1) = T - i - 1 by omega]
          case measure => simp [intOf]; omega
      · obtain rfl : i = T := by omega
        have HF : R = (0, 4, b, S, i) := by
          have := HE.out
          rw [Nat.sub_self, waitR] at this
          exact this.symm
        have HF' := Lib.hid HF
        clear HF
        gi_wp2
        go_ret2
        rw [HF'.out]
        exact ⟨rfl, H3.out, B3.out⟩
  · gi_enter Try.func11, Try.ntmps11
    gi_wp2
    gi_loopw [43] (fun iv wr => ∃ (i : Nat) (S : Nat) (b : Nat → Nat), i ≤ T ∧ iv = .int .i64 i ∧ S ≤ i * (Y.k + 1) ∧ Hid (waitR Y false Q (T - i) i S b = R) ∧ Hid (∀ x, b x ≤ a x + i) ∧ Mem Y false b (n + S * d) wr ∧ Below Y.N w wr) (fun i _ => T - (intOf i).toNat)
    case atStart => exact ⟨0, 0, a, by omega, rfl, by omega, HR, fun x => by omega, by simpa using H0.out, Below.refl _ _⟩
    case round =>
      obtain ⟨i, S, b, hi, rfl, hS, HE, Hb, hM, hB⟩ := hrel
      have H3 := Lib.hid hM
      have B3 := Lib.hid hB
      clear hM hB
      by_cases hlt : i < T
      · have hik : i * (Y.k + 1) ≤ 1024 * 100001 := Nat.mul_le_mul (by omega) (by omega)
        have hSd : S * d ≤ S := by have := Nat.mul_le_mul_left S HI.out; omega
        have hs1 : ∀ x, S + x + Y.k ≤ (i + 1) * (Y.k + 1) ∨ 1 < x := by intro x; rw [Nat.add_mul]; omega
        have HS1 := Lib.hid hs1
        have CA := Lib.hid (HA.out b (n + S * d) wr (by omega) H3.out)
        have CL : Hid (∀ m w', m ≤ 1000000000000 → Mem Y false b m w' → CallsIn (Fence.list [9, 10, 11, 12, 13, 22, 23, 39, 40, 52, 54, 87, 88] none) 0 Try.prog 12 #[.pointer (some ⟨Y.bb, 0, none⟩), s] w' (Done Y (.int .i64 (lim (next Y b) (Y.k - 1))) false (bump b Y.k) (m + Y.k * d) w')) :=
          fun m w' hm h' => HL.out b m w' (fun x => by have := Hb.out x; have := Ha.out x; omega) (by omega) h'
        have HS : Hid (waitR Y false Q (T - i - 1 + 1) i S b = R) := by have := HE.out; rwa [show T - i - 1 + 1 = T - i by omega]
        have hSb : S ≤ 1100000000 := by omega
        clear hik hs1
        generalize hv : lim (next Y b) (Y.k - 1) = v at *
        have HV := Lib.hid hv
        have HSd := Lib.hid hSd
        have HSb := Lib.hid hSb
        have HSS := Lib.hid hS
        clear hv hSd hSb hS
        gi_wp2_with fail
        refine CA.out.mono ?_
        rintro e w1 ⟨rfl, h1, hb1⟩
        have H4 := Lib.hid h1
        have B4 := Lib.hid hb1
        clear h1 hb1
        gi_wp2_with fail
        refine (CL.out _ _ (by have := HI.out; have := HSd.out; have := HSb.out; omega) H4.out).mono ?_
        rintro e w2 ⟨rfl, h2, hb2⟩
        have H5 := Lib.hid h2
        have B5 := Lib.hid hb2
        clear h2 hb2
        have HX : Hid (Mem Y false (bump b Y.k) (n + (S + 1 + Y.k) * d) w2) := by
          have := H5.out
          rw [show n + (S + 1 + Y.k) * d = n + S * d + d + Y.k * d by simp only [Nat.add_mul]; omega]
          exact this
        by_cases hvq : Q ≤ v
        · have HF : R = (v, 0, bump b Y.k, S + 1 + Y.k, i + 1) := by
            have := HS.out
            rw [waitR, HV.out, if_pos hvq, if_pos (.inl rfl)] at this
            exact this.symm
          have HF' := Lib.hid HF
          clear HF
          gi_wp2
          go_ret2
          rw [HF'.out]
          exact ⟨rfl, HX.out, (B3.out.trans B4.out).trans B5.out⟩
        · have hvq2 : v < Q := by omega
          gi_wp2
          go_roundw
          case rel =>
            refine ⟨i + 1, S + 1 + Y.k, bump b Y.k, by omega, by go_num, ?_, ?_, bump_le Hb.out, HX.out, (B3.out.trans B4.out).trans B5.out⟩
            · have := HS1.out 1; have := HSS.out; omega
            · have := HS.out
              rw [waitR, HV.out, if_neg (show ¬ Q ≤ v by omega), if_pos (.inl rfl)] at this
              rwa [show T - (i + 1) = T - i - 1 by omega]
          case measure => simp [intOf]; omega
      · obtain rfl : i = T := by omega
        have HF : R = (0, 4, b, S, i) := by
          have := HE.out
          rw [Nat.sub_self, waitR] at this
          exact this.symm
        have HF' := Lib.hid HF
        clear HF
        gi_wp2
        go_ret2
        rw [HF'.out]
        exact ⟨rfl, H3.out, B3.out⟩
  · have c3 : 1024 ≤ T := by omega
    clear c2
    gi_enter Try.func11, Try.ntmps11
    gi_wp2
    gi_loopw [43] (fun iv wr => ∃ (i : Nat) (S : Nat) (b : Nat → Nat), i ≤ T ∧ iv = .int .i64 i ∧ S ≤ i * (Y.k + 1) ∧ Hid (waitR Y false Q (T - i) i S b = R) ∧ Hid (∀ x, b x ≤ a x + i) ∧ Mem Y false b (n + S * d) wr ∧ Below Y.N w wr) (fun i _ => T - (intOf i).toNat)
    case atStart => exact ⟨0, 0, a, by omega, rfl, by omega, HR, fun x => by omega, by simpa using H0.out, Below.refl _ _⟩
    case round =>
      obtain ⟨i, S, b, hi, rfl, hS, HE, Hb, hM, hB⟩ := hrel
      have H3 := Lib.hid hM
      have B3 := Lib.hid hB
      clear hM hB
      by_cases hlt : i < T
      · have hik : i * (Y.k + 1) ≤ 1024 * 100001 := Nat.mul_le_mul (by omega) (by omega)
        have hSd : S * d ≤ S := by have := Nat.mul_le_mul_left S HI.out; omega
        have hs1 : ∀ x, S + x + Y.k ≤ (i + 1) * (Y.k + 1) ∨ 1 < x := by intro x; rw [Nat.add_mul]; omega
        have HS1 := Lib.hid hs1
        have CA := Lib.hid (HA.out b (n + S * d) wr (by omega) H3.out)
        have CL : Hid (∀ m w', m ≤ 1000000000000 → Mem Y false b m w' → CallsIn (Fence.list [9, 10, 11, 12, 13, 22, 23, 39, 40, 52, 54, 87, 88] none) 0 Try.prog 12 #[.pointer (some ⟨Y.bb, 0, none⟩), s] w' (Done Y (.int .i64 (lim (next Y b) (Y.k - 1))) false (bump b Y.k) (m + Y.k * d) w')) :=
          fun m w' hm h' => HL.out b m w' (fun x => by have := Hb.out x; have := Ha.out x; omega) (by omega) h'
        have HS : Hid (waitR Y false Q (T - i - 1 + 1) i S b = R) := by have := HE.out; rwa [show T - i - 1 + 1 = T - i by omega]
        have hSb : S ≤ 1100000000 := by omega
        clear hik hs1
        generalize hv : lim (next Y b) (Y.k - 1) = v at *
        have HV := Lib.hid hv
        have HSd := Lib.hid hSd
        have HSb := Lib.hid hSb
        have HSS := Lib.hid hS
        clear hv hSd hSb hS
        gi_wp2_with fail
        refine CA.out.mono ?_
        rintro e w1 ⟨rfl, h1, hb1⟩
        have H4 := Lib.hid h1
        have B4 := Lib.hid hb1
        clear h1 hb1
        gi_wp2_with fail
        refine (CL.out _ _ (by have := HI.out; have := HSd.out; have := HSb.out; omega) H4.out).mono ?_
        rintro e w2 ⟨rfl, h2, hb2⟩
        have H5 := Lib.hid h2
        have B5 := Lib.hid hb2
        clear h2 hb2
        have HX : Hid (Mem Y false (bump b Y.k) (n + (S + 1 + Y.k) * d) w2) := by
          have := H5.out
          rw [show n + (S + 1 + Y.k) * d = n + S * d + d + Y.k * d by simp only [Nat.add_mul]; omega]
          exact this
        by_cases hvq : Q ≤ v
        · have HF : R = (v, 0, bump b Y.k, S + 1 + Y.k, i + 1) := by
            have := HS.out
            rw [waitR, HV.out, if_pos hvq, if_pos (.inl rfl)] at this
            exact this.symm
          have HF' := Lib.hid HF
          clear HF
          gi_wp2
          go_ret2
          rw [HF'.out]
          exact ⟨rfl, HX.out, (B3.out.trans B4.out).trans B5.out⟩
        · have hvq2 : v < Q := by omega
          gi_wp2
          go_roundw
          case rel =>
            refine ⟨i + 1, S + 1 + Y.k, bump b Y.k, by omega, by go_num, ?_, ?_, bump_le Hb.out, HX.out, (B3.out.trans B4.out).trans B5.out⟩
            · have := HS1.out 1; have := HSS.out; omega
            · have := HS.out
              rw [waitR, HV.out, if_neg (show ¬ Q ≤ v by omega), if_pos (.inl rfl)] at this
              rwa [show T - (i + 1) = T - i - 1 by omega]
          case measure => simp [intOf]; omega
      · obtain rfl : i = T := by omega
        have HF : R = (0, 4, b, S, i) := by
          have := HE.out
          rw [Nat.sub_self, waitR] at this
          exact this.symm
        have HF' := Lib.hid HF
        clear HF
        gi_wp2
        go_ret2
        rw [HF'.out]
        exact ⟨rfl, H3.out, B3.out⟩
set_option maxRecDepth 100000 in
set_option maxHeartbeats 4000000 in
theorem wait_rare (h : Mem Y false a n w) (q : Bool) (hk : 1 ≤ Y.k) (hk6 : Y.k ≤ 100000) (Q tries : Int) (ha : ∀ i, a i ≤ 1000000) (hn : n ≤ 1000000) :
    CallsIn (Fence.list [9, 10, 11, 12, 13, 22, 23, 39, 40, 52, 54, 87, 88] none) 0 Try.prog 11 #[.pointer (some ⟨Y.bb, 0, none⟩), sv Y q, .int .i64 Q, .int .i64 tries, .int .i64 3] w (DoneW Y (waitR Y true Q (clamp tries) 0 0 a) false n (inc q) w) := by
  have hkk := h.kk
  have hbar := bar_cell h (by omega)
  have hi : inc q ≤ 1 := by cases q <;> simp [inc]
  have HA : Hid (∀ (b : Nat → Nat) (m : Nat) (w' : World), m ≤ 1000000000 → Mem Y false b m w' → CallsIn (Fence.list [9, 10, 11, 12, 13, 22, 23, 39, 40, 52, 54, 87, 88] none) 0 Try.prog 13 #[.pointer (some ⟨Y.bb, 0, none⟩), sv Y q] w' (Done Y (.bool false) false b (m + inc q) w')) :=
    fun b m w' hm h' => alerted h' q (by omega)
  have HL : Hid (∀ (b : Nat → Nat) (m : Nat) (w' : World), (∀ x, b x ≤ 1000000000) → m + Y.k ≤ 1000000000000000 → Mem Y false b m w' → CallsIn (Fence.list [9, 10, 11, 12, 13, 22, 23, 39, 40, 52, 54, 87, 88] none) 0 Try.prog 12 #[.pointer (some ⟨Y.bb, 0, none⟩), sv Y q] w' (Done Y (.int .i64 (lim (next Y b) (Y.k - 1))) false (bump b Y.k) (m + Y.k * inc q) w')) :=
    fun b m w' hb hm h' => limitM h' q hk (fun x => by have := hb x; omega) hm
  have hk0 : ((Y.k : Int) == 0) = false := by rw [beq_eq_false_iff_ne]; omega
  have H0 := Lib.hid h
  have Ha := Lib.hid ha
  have HI := Lib.hid hi
  clear h ha hi
  obtain ⟨T, hTe⟩ : ∃ T, T = clamp tries := ⟨_, rfl⟩
  have hT1 : 1 ≤ T ∧ T ≤ 1024 := by rw [hTe]; exact clamp_le tries
  rw [← hTe]
  generalize hR : waitR Y true Q T 0 0 a = R
  have HR := Lib.hid hR
  clear hR
  have hcl : (tries < 1 ∧ T = 1) ∨ (1 ≤ tries ∧ tries ≤ 1024 ∧ tries = (T : Int)) ∨ (1024 < tries ∧ T = 1024) := by
    rw [hTe]; unfold clamp; split <;> (try split) <;> omega
  clear hTe
  generalize sv Y q = s at *
  generalize inc q = d at *
  obtain ⟨hT1, hT2⟩ := hT1
  have CW : Hid (∀ (P : Nat → World → Prop) , True) := fun _ => trivial
  rcases hcl with ⟨c1, c2⟩ | ⟨c1, c2, rfl⟩ | ⟨c1, c2⟩
  · have c3 : T ≤ 1 := by omega
    clear c2
    gi_enter Try.func11, Try.ntmps11
    gi_wp2
    gi_loopw [43] (fun iv wr => ∃ (i : Nat) (S : Nat) (b : Nat → Nat), i ≤ T ∧ iv = .int .i64 i ∧ S ≤ i * (Y.k + 1) ∧ Hid (waitR Y true Q (T - i) i S b = R) ∧ Hid (∀ x, b x ≤ a x + i) ∧ Mem Y false b (n + S * d) wr ∧ Below Y.N w wr) (fun i _ => T - (intOf i).toNat)
    case atStart => exact ⟨0, 0, a, by omega, rfl, by omega, HR, fun x => by omega, by simpa using H0.out, Below.refl _ _⟩
    case round =>
      obtain ⟨i, S, b, hi, rfl, hS, HE, Hb, hM, hB⟩ := hrel
      have H3 := Lib.hid hM
      have B3 := Lib.hid hB
      clear hM hB
      by_cases hlt : i < T
      · have hik : i * (Y.k + 1) ≤ 1024 * 100001 := Nat.mul_le_mul (by omega) (by omega)
        have hSd : S * d ≤ S := by have := Nat.mul_le_mul_left S HI.out; omega
        have hs1 : ∀ x, S + x + Y.k ≤ (i + 1) * (Y.k + 1) ∨ 1 < x := by intro x; rw [Nat.add_mul]; omega
        have HS1 := Lib.hid hs1
        have CA := Lib.hid (HA.out b (n + S * d) wr (by omega) H3.out)
        have CL : Hid (∀ m w', m ≤ 1000000000000 → Mem Y false b m w' → CallsIn (Fence.list [9, 10, 11, 12, 13, 22, 23, 39, 40, 52, 54, 87, 88] none) 0 Try.prog 12 #[.pointer (some ⟨Y.bb, 0, none⟩), s] w' (Done Y (.int .i64 (lim (next Y b) (Y.k - 1))) false (bump b Y.k) (m + Y.k * d) w')) :=
          fun m w' hm h' => HL.out b m w' (fun x => by have := Hb.out x; have := Ha.out x; omega) (by omega) h'
        have HS : Hid (waitR Y true Q (T - i - 1 + 1) i S b = R) := by have := HE.out; rwa [show T - i - 1 + 1 = T - i by omega]
        have hSb : S ≤ 1100000000 := by omega
        clear hik hs1
        generalize hv : lim (next Y b) (Y.k - 1) = v at *
        have HV := Lib.hid hv
        have HSd := Lib.hid hSd
        have HSb := Lib.hid hSb
        have HSS := Lib.hid hS
        clear hv hSd hSb hS
        by_cases h8 : i % 8 = 0
        · have h8i : ((i : Int) % 8 == 0) = true := by rw [beq_iff_eq]; omega
          have H8 := Lib.hid h8
          clear h8
          gi_wp2_with fail
          refine CA.out.mono ?_
          rintro e w1 ⟨rfl, h1, hb1⟩
          have H4 := Lib.hid h1
          have B4 := Lib.hid hb1
          clear h1 hb1
          gi_wp2_with fail
          refine (CL.out _ _ (by have := HI.out; have := HSd.out; have := HSb.out; omega) H4.out).mono ?_
          rintro e w2 ⟨rfl, h2, hb2⟩
          have H5 := Lib.hid h2
          have B5 := Lib.hid hb2
          clear h2 hb2
          have HX : Hid (Mem Y false (bump b Y.k) (n + (S + 1 + Y.k) * d) w2) := by
            have := H5.out
            rw [show n + (S + 1 + Y.k) * d = n + S * d + d + Y.k * d by simp only [Nat.add_mul]; omega]
            exact this
          by_cases hvq : Q ≤ v
          · have HF : R = (v, 0, bump b Y.k, S + 1 + Y.k, i + 1) := by
              have := HS.out
              rw [waitR, HV.out, if_pos hvq, if_pos (.inr H8.out)] at this
              exact this.symm
            have HF' := Lib.hid HF
            clear HF
            gi_wp2
            go_ret2
            rw [HF'.out]
            exact ⟨rfl, HX.out, (B3.out.trans B4.out).trans B5.out⟩
          · have hvq2 : v < Q := by omega
            gi_wp2
            go_roundw
            case rel =>
              refine ⟨i + 1, S + 1 + Y.k, bump b Y.k, by omega, by go_num, ?_, ?_, bump_le Hb.out, HX.out, (B3.out.trans B4.out).trans B5.out⟩
              · have := HS1.out 1; have := HSS.out; omega
              · have := HS.out
                rw [waitR, HV.out, if_neg (show ¬ Q ≤ v by omega), if_pos (.inr H8.out)] at this
                rwa [show T - (i + 1) = T - i - 1 by omega]
            case measure => simp [intOf]; omega
        · have h8i : ((i : Int) % 8 == 0) = false := by rw [beq_eq_false_iff_ne]; omega
          have H8 := Lib.hid h8
          clear h8
          have B4 := Lib.hid (Below.refl Y.N wr)
          gi_wp2_with fail
          refine (CL.out _ _ (by have := HSd.out; have := HSb.out; omega) H3.out).mono ?_
          rintro e w2 ⟨rfl, h2, hb2⟩
          have H5 := Lib.hid h2
          have B5 := Lib.hid hb2
          clear h2 hb2
          have HX : Hid (Mem Y false (bump b Y.k) (n + (S + 0 + Y.k) * d) w2) := by
            have := H5.out
            rw [show n + (S + 0 + Y.k) * d = n + S * d + Y.k * d by simp only [Nat.add_mul]; omega]
            exact this
          by_cases hvq : Q ≤ v
          · have HF : R = (v, 0, bump b Y.k, S + 0 + Y.k, i + 1) := by
              have := HS.out
              rw [waitR, HV.out, if_pos hvq, if_neg (by rintro (h | h); cases h; exact H8.out h)] at this
              exact this.symm
            have HF' := Lib.hid HF
            clear HF
            gi_wp2
            go_ret2
            rw [HF'.out]
            exact ⟨rfl, HX.out, (B3.out.trans B4.out).trans B5.out⟩
          · have hvq2 : v < Q := by omega
            gi_wp2
            go_roundw
            case rel =>
              refine ⟨i + 1, S + 0 + Y.k, bump b Y.k, by omega, by go_num, ?_, ?_, bump_le Hb.out, HX.out, (B3.out.trans B4.out).trans B5.out⟩
              · have := HS1.out 0; have := HSS.out; omega
              · have := HS.out
                rw [waitR, HV.out, if_neg (show ¬ Q ≤ v by omega), if_neg (by rintro (h | h); cases h; exact H8.out h)] at this
                rwa [show T - (i + 1) = T - i - 1 by omega]
            case measure => simp [intOf]; omega
      · obtain rfl : i = T := by omega
        have HF : R = (0, 4, b, S, i) := by
          have := HE.out
          rw [Nat.sub_self, waitR] at this
          exact this.symm
        have HF' := Lib.hid HF
        clear HF
        gi_wp2
        go_ret2
        rw [HF'.out]
        exact ⟨rfl, H3.out, B3.out⟩
  · gi_enter Try.func11, Try.ntmps11
    gi_wp2
    gi_loopw [43] (fun iv wr => ∃ (i : Nat) (S : Nat) (b : Nat → Nat), i ≤ T ∧ iv = .int .i64 i ∧ S ≤ i * (Y.k + 1) ∧ Hid (waitR Y true Q (T - i) i S b = R) ∧ Hid (∀ x, b x ≤ a x + i) ∧ Mem Y false b (n + S * d) wr ∧ Below Y.N w wr) (fun i _ => T - (intOf i).toNat)
    case atStart => exact ⟨0, 0, a, by omega, rfl, by omega, HR, fun x => by omega, by simpa using H0.out, Below.refl _ _⟩
    case round =>
      obtain ⟨i, S, b, hi, rfl, hS, HE, Hb, hM, hB⟩ := hrel
      have H3 := Lib.hid hM
      have B3 := Lib.hid hB
      clear hM hB
      by_cases hlt : i < T
      · have hik : i * (Y.k + 1) ≤ 1024 * 100001 := Nat.mul_le_mul (by omega) (by omega)
        have hSd : S * d ≤ S := by have := Nat.mul_le_mul_left S HI.out; omega
        have hs1 : ∀ x, S + x + Y.k ≤ (i + 1) * (Y.k + 1) ∨ 1 < x := by intro x; rw [Nat.add_mul]; omega
        have HS1 := Lib.hid hs1
        have CA := Lib.hid (HA.out b (n + S * d) wr (by omega) H3.out)
        have CL : Hid (∀ m w', m ≤ 1000000000000 → Mem Y false b m w' → CallsIn (Fence.list [9, 10, 11, 12, 13, 22, 23, 39, 40, 52, 54, 87, 88] none) 0 Try.prog 12 #[.pointer (some ⟨Y.bb, 0, none⟩), s] w' (Done Y (.int .i64 (lim (next Y b) (Y.k - 1))) false (bump b Y.k) (m + Y.k * d) w')) :=
          fun m w' hm h' => HL.out b m w' (fun x => by have := Hb.out x; have := Ha.out x; omega) (by omega) h'
        have HS : Hid (waitR Y true Q (T - i - 1 + 1) i S b = R) := by have := HE.out; rwa [show T - i - 1 + 1 = T - i by omega]
        have hSb : S ≤ 1100000000 := by omega
        clear hik hs1
        generalize hv : lim (next Y b) (Y.k - 1) = v at *
        have HV := Lib.hid hv
        have HSd := Lib.hid hSd
        have HSb := Lib.hid hSb
        have HSS := Lib.hid hS
        clear hv hSd hSb hS
        by_cases h8 : i % 8 = 0
        · have h8i : ((i : Int) % 8 == 0) = true := by rw [beq_iff_eq]; omega
          have H8 := Lib.hid h8
          clear h8
          gi_wp2_with fail
          refine CA.out.mono ?_
          rintro e w1 ⟨rfl, h1, hb1⟩
          have H4 := Lib.hid h1
          have B4 := Lib.hid hb1
          clear h1 hb1
          gi_wp2_with fail
          refine (CL.out _ _ (by have := HI.out; have := HSd.out; have := HSb.out; omega) H4.out).mono ?_
          rintro e w2 ⟨rfl, h2, hb2⟩
          have H5 := Lib.hid h2
          have B5 := Lib.hid hb2
          clear h2 hb2
          have HX : Hid (Mem Y false (bump b Y.k) (n + (S + 1 + Y.k) * d) w2) := by
            have := H5.out
            rw [show n + (S + 1 + Y.k) * d = n + S * d + d + Y.k * d by simp only [Nat.add_mul]; omega]
            exact this
          by_cases hvq : Q ≤ v
          · have HF : R = (v, 0, bump b Y.k, S + 1 + Y.k, i + 1) := by
              have := HS.out
              rw [waitR, HV.out, if_pos hvq, if_pos (.inr H8.out)] at this
              exact this.symm
            have HF' := Lib.hid HF
            clear HF
            gi_wp2
            go_ret2
            rw [HF'.out]
            exact ⟨rfl, HX.out, (B3.out.trans B4.out).trans B5.out⟩
          · have hvq2 : v < Q := by omega
            gi_wp2
            go_roundw
            case rel =>
              refine ⟨i + 1, S + 1 + Y.k, bump b Y.k, by omega, by go_num, ?_, ?_, bump_le Hb.out, HX.out, (B3.out.trans B4.out).trans B5.out⟩
              · have := HS1.out 1; have := HSS.out; omega
              · have := HS.out
                rw [waitR, HV.out, if_neg (show ¬ Q ≤ v by omega), if_pos (.inr H8.out)] at this
                rwa [show T - (i + 1) = T - i - 1 by omega]
            case measure => simp [intOf]; omega
        · have h8i : ((i : Int) % 8 == 0) = false := by rw [beq_eq_false_iff_ne]; omega
          have H8 := Lib.hid h8
          clear h8
          have B4 := Lib.hid (Below.refl Y.N wr)
          gi_wp2_with fail
          refine (CL.out _ _ (by have := HSd.out; have := HSb.out; omega) H3.out).mono ?_
          rintro e w2 ⟨rfl, h2, hb2⟩
          have H5 := Lib.hid h2
          have B5 := Lib.hid hb2
          clear h2 hb2
          have HX : Hid (Mem Y false (bump b Y.k) (n + (S + 0 + Y.k) * d) w2) := by
            have := H5.out
            rw [show n + (S + 0 + Y.k) * d = n + S * d + Y.k * d by simp only [Nat.add_mul]; omega]
            exact this
          by_cases hvq : Q ≤ v
          · have HF : R = (v, 0, bump b Y.k, S + 0 + Y.k, i + 1) := by
              have := HS.out
              rw [waitR, HV.out, if_pos hvq, if_neg (by rintro (h | h); cases h; exact H8.out h)] at this
              exact this.symm
            have HF' := Lib.hid HF
            clear HF
            gi_wp2
            go_ret2
            rw [HF'.out]
            exact ⟨rfl, HX.out, (B3.out.trans B4.out).trans B5.out⟩
          · have hvq2 : v < Q := by omega
            gi_wp2
            go_roundw
            case rel =>
              refine ⟨i + 1, S + 0 + Y.k, bump b Y.k, by omega, by go_num, ?_, ?_, bump_le Hb.out, HX.out, (B3.out.trans B4.out).trans B5.out⟩
              · have := HS1.out 0; have := HSS.out; omega
              · have := HS.out
                rw [waitR, HV.out, if_neg (show ¬ Q ≤ v by omega), if_neg (by rintro (h | h); cases h; exact H8.out h)] at this
                rwa [show T - (i + 1) = T - i - 1 by omega]
            case measure => simp [intOf]; omega
      · obtain rfl : i = T := by omega
        have HF : R = (0, 4, b, S, i) := by
          have := HE.out
          rw [Nat.sub_self, waitR] at this
          exact this.symm
        have HF' := Lib.hid HF
        clear HF
        gi_wp2
        go_ret2
        rw [HF'.out]
        exact ⟨rfl, H3.out, B3.out⟩
  · have c3 : 1024 ≤ T := by omega
    clear c2
    gi_enter Try.func11, Try.ntmps11
    gi_wp2
    gi_loopw [43] (fun iv wr => ∃ (i : Nat) (S : Nat) (b : Nat → Nat), i ≤ T ∧ iv = .int .i64 i ∧ S ≤ i * (Y.k + 1) ∧ Hid (waitR Y true Q (T - i) i S b = R) ∧ Hid (∀ x, b x ≤ a x + i) ∧ Mem Y false b (n + S * d) wr ∧ Below Y.N w wr) (fun i _ => T - (intOf i).toNat)
    case atStart => exact ⟨0, 0, a, by omega, rfl, by omega, HR, fun x => by omega, by simpa using H0.out, Below.refl _ _⟩
    case round =>
      obtain ⟨i, S, b, hi, rfl, hS, HE, Hb, hM, hB⟩ := hrel
      have H3 := Lib.hid hM
      have B3 := Lib.hid hB
      clear hM hB
      by_cases hlt : i < T
      · have hik : i * (Y.k + 1) ≤ 1024 * 100001 := Nat.mul_le_mul (by omega) (by omega)
        have hSd : S * d ≤ S := by have := Nat.mul_le_mul_left S HI.out; omega
        have hs1 : ∀ x, S + x + Y.k ≤ (i + 1) * (Y.k + 1) ∨ 1 < x := by intro x; rw [Nat.add_mul]; omega
        have HS1 := Lib.hid hs1
        have CA := Lib.hid (HA.out b (n + S * d) wr (by omega) H3.out)
        have CL : Hid (∀ m w', m ≤ 1000000000000 → Mem Y false b m w' → CallsIn (Fence.list [9, 10, 11, 12, 13, 22, 23, 39, 40, 52, 54, 87, 88] none) 0 Try.prog 12 #[.pointer (some ⟨Y.bb, 0, none⟩), s] w' (Done Y (.int .i64 (lim (next Y b) (Y.k - 1))) false (bump b Y.k) (m + Y.k * d) w')) :=
          fun m w' hm h' => HL.out b m w' (fun x => by have := Hb.out x; have := Ha.out x; omega) (by omega) h'
        have HS : Hid (waitR Y true Q (T - i - 1 + 1) i S b = R) := by have := HE.out; rwa [show T - i - 1 + 1 = T - i by omega]
        have hSb : S ≤ 1100000000 := by omega
        clear hik hs1
        generalize hv : lim (next Y b) (Y.k - 1) = v at *
        have HV := Lib.hid hv
        have HSd := Lib.hid hSd
        have HSb := Lib.hid hSb
        have HSS := Lib.hid hS
        clear hv hSd hSb hS
        by_cases h8 : i % 8 = 0
        · have h8i : ((i : Int) % 8 == 0) = true := by rw [beq_iff_eq]; omega
          have H8 := Lib.hid h8
          clear h8
          gi_wp2_with fail
          refine CA.out.mono ?_
          rintro e w1 ⟨rfl, h1, hb1⟩
          have H4 := Lib.hid h1
          have B4 := Lib.hid hb1
          clear h1 hb1
          gi_wp2_with fail
          refine (CL.out _ _ (by have := HI.out; have := HSd.out; have := HSb.out; omega) H4.out).mono ?_
          rintro e w2 ⟨rfl, h2, hb2⟩
          have H5 := Lib.hid h2
          have B5 := Lib.hid hb2
          clear h2 hb2
          have HX : Hid (Mem Y false (bump b Y.k) (n + (S + 1 + Y.k) * d) w2) := by
            have := H5.out
            rw [show n + (S + 1 + Y.k) * d = n + S * d + d + Y.k * d by simp only [Nat.add_mul]; omega]
            exact this
          by_cases hvq : Q ≤ v
          · have HF : R = (v, 0, bump b Y.k, S + 1 + Y.k, i + 1) := by
              have := HS.out
              rw [waitR, HV.out, if_pos hvq, if_pos (.inr H8.out)] at this
              exact this.symm
            have HF' := Lib.hid HF
            clear HF
            gi_wp2
            go_ret2
            rw [HF'.out]
            exact ⟨rfl, HX.out, (B3.out.trans B4.out).trans B5.out⟩
          · have hvq2 : v < Q := by omega
            gi_wp2
            go_roundw
            case rel =>
              refine ⟨i + 1, S + 1 + Y.k, bump b Y.k, by omega, by go_num, ?_, ?_, bump_le Hb.out, HX.out, (B3.out.trans B4.out).trans B5.out⟩
              · have := HS1.out 1; have := HSS.out; omega
              · have := HS.out
                rw [waitR, HV.out, if_neg (show ¬ Q ≤ v by omega), if_pos (.inr H8.out)] at this
                rwa [show T - (i + 1) = T - i - 1 by omega]
            case measure => simp [intOf]; omega
        · have h8i : ((i : Int) % 8 == 0) = false := by rw [beq_eq_false_iff_ne]; omega
          have H8 := Lib.hid h8
          clear h8
          have B4 := Lib.hid (Below.refl Y.N wr)
          gi_wp2_with fail
          refine (CL.out _ _ (by have := HSd.out; have := HSb.out; omega) H3.out).mono ?_
          rintro e w2 ⟨rfl, h2, hb2⟩
          have H5 := Lib.hid h2
          have B5 := Lib.hid hb2
          clear h2 hb2
          have HX : Hid (Mem Y false (bump b Y.k) (n + (S + 0 + Y.k) * d) w2) := by
            have := H5.out
            rw [show n + (S + 0 + Y.k) * d = n + S * d + Y.k * d by simp only [Nat.add_mul]; omega]
            exact this
          by_cases hvq : Q ≤ v
          · have HF : R = (v, 0, bump b Y.k, S + 0 + Y.k, i + 1) := by
              have := HS.out
              rw [waitR, HV.out, if_pos hvq, if_neg (by rintro (h | h); cases h; exact H8.out h)] at this
              exact this.symm
            have HF' := Lib.hid HF
            clear HF
            gi_wp2
            go_ret2
            rw [HF'.out]
            exact ⟨rfl, HX.out, (B3.out.trans B4.out).trans B5.out⟩
          · have hvq2 : v < Q := by omega
            gi_wp2
            go_roundw
            case rel =>
              refine ⟨i + 1, S + 0 + Y.k, bump b Y.k, by omega, by go_num, ?_, ?_, bump_le Hb.out, HX.out, (B3.out.trans B4.out).trans B5.out⟩
              · have := HS1.out 0; have := HSS.out; omega
              · have := HS.out
                rw [waitR, HV.out, if_neg (show ¬ Q ≤ v by omega), if_neg (by rintro (h | h); cases h; exact H8.out h)] at this
                rwa [show T - (i + 1) = T - i - 1 by omega]
            case measure => simp [intOf]; omega
      · obtain rfl : i = T := by omega
        have HF : R = (0, 4, b, S, i) := by
          have := HE.out
          rw [Nat.sub_self, waitR] at this
          exact this.symm
        have HF' := Lib.hid HF
        clear HF
        gi_wp2
        go_ret2
        rw [HF'.out]
        exact ⟨rfl, H3.out, B3.out⟩
end Go.Proofs.Ytimkkeomdkbcjaa.FF

/-
  The fenced twin of Wait2: which functions are entered. No condition of its own.
-/
namespace Go.Proofs.Ytimkkeomdkbcjaa.FF
open Go.RowKit
variable {Y : Lay} {al : Bool} {a : Nat → Nat} {n : Nat} {w : World}
set_option maxRecDepth 100000 in
theorem wait_lean (h : Mem Y false a n w) (q : Bool) (hk : 1 ≤ Y.k) (Q tries : Int) (ha : ∀ i, a i ≤ 1000000) (hn : n ≤ 1000000) :
    CallsIn (Fence.list [9, 10, 11, 12, 13, 22, 23, 39, 40, 52, 54, 87, 88] none) 0 Try.prog 11 #[.pointer (some ⟨Y.bb, 0, none⟩), sv Y q, .int .i64 Q, .int .i64 tries, .int .i64 2] w (DoneL Y (leanR Y Q (clamp tries) 0 0 0 a) false n (inc q) w) := by
  have hkk := h.kk
  have hbar := bar_cell h (by omega)
  have hk0 : ((Y.k : Int) == 0) = false := by rw [beq_eq_false_iff_ne]; omega
  have C := Lib.hid (fun (t : Nat) (ht : t ≤ 1024) => lean_any h q hk Q t ht ha hn)
  clear h
  generalize sv Y q = s at *
  generalize inc q = d at *
  by_cases c1 : tries < 1
  · have e : clamp tries = 1 := by unfold clamp; rw [if_pos c1]
    rw [e]
    have C1 := Lib.hid (C.out 1 (by omega))
    clear C e
    gi_enter Try.func11, Try.ntmps11
    gi_wp2_with (gi_at_call 22; refine C1.out.mono ?_; rintro e w' ⟨rfl, h1, hb1⟩; have H1 := Lib.hid h1; clear h1)
    go_ret2
    exact ⟨rfl, H1.out, hb1⟩
  · by_cases c2 : 1024 < tries
    · have e : clamp tries = 1024 := by unfold clamp; rw [if_neg c1, if_pos c2]
      rw [e]
      have C1 := Lib.hid (C.out 1024 (by omega))
      clear C e
      gi_enter Try.func11, Try.ntmps11
      gi_wp2_with (gi_at_call 22; refine C1.out.mono ?_; rintro e w' ⟨rfl, h1, hb1⟩; have H1 := Lib.hid h1; clear h1)
      go_ret2
      exact ⟨rfl, H1.out, hb1⟩
    · obtain ⟨T, rfl⟩ := Int.eq_ofNat_of_zero_le (show 0 ≤ tries by omega)
      have e : clamp (T : Int) = T := by unfold clamp; rw [if_neg c1, if_neg c2]; simp
      rw [e]
      have C1 := Lib.hid (C.out T (by omega))
      have c3 : 1 ≤ (T : Int) := by omega
      have c4 : (T : Int) ≤ 1024 := by omega
      clear C e c1 c2
      gi_enter Try.func11, Try.ntmps11
      gi_wp2_with (gi_at_call 22; refine C1.out.mono ?_; rintro e w' ⟨rfl, h1, hb1⟩; have H1 := Lib.hid h1; clear h1)
      go_ret2
      exact ⟨rfl, H1.out, hb1⟩
end Go.Proofs.Ytimkkeomdkbcjaa.FF
