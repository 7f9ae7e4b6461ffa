/-
  The law JudgeTrue (f6): the walk.
-/
import Derived.Test.YtfcaebceklhbkaaDoorPlayed
namespace Go.Proofs.YtfcaebceklhbkaaDoor
open Go.RowKit
set_option linter.unusedVariables false

theorem playTo_chain (o : Int) (f : Nat → O4) (m : Nat → Int) (mn : Nat) (s : List Int) : ∀ i, chainF o (playTo o f m mn s i).1 s = true ∧ endF o (playTo o f m mn s i).1 s = (playTo o f m mn s i).2
  | 0 => ⟨rfl, rfl⟩
  | i + 1 => by
    obtain ⟨h1, h2⟩ := playTo_chain o f m mn s i
    obtain ⟨g1, g2⟩ := chainF_snoc o (callP f (doF o (playTo o f m mn s i).2 (f i).k (f i).x (f i).y) (earlyF m mn i) (lateF m mn i) i) (playTo o f m mn s i).1 s
    refine ⟨?_, ?_⟩
    · show chainF o ((playTo o f m mn s i).1 ++ [_]) s = true
      rw [g1, h1, h2]
      simp [answers, callP]
    · show endF o ((playTo o f m mn s i).1 ++ [_]) s = _
      rw [g2, h2]
      rfl
theorem playTo_get (o : Int) (f : Nat → O4) (m : Nat → Int) (mn : Nat) (s : List Int) : ∀ i j, j < i → ∃ r, (playTo o f m mn s i).1.getD j default = callP f r (earlyF m mn j) (lateF m mn j) j
  | 0, j, h => by omega
  | i + 1, j, h => by
    have hl := (playTo_len o f m mn s i).1
    have e : (playTo o f m mn s (i + 1)).1 = (playTo o f m mn s i).1 ++ [callP f (doF o (playTo o f m mn s i).2 (f i).k (f i).x (f i).y) (earlyF m mn i) (lateF m mn i) i] := rfl
    rw [e]
    rcases Nat.lt_or_ge j i with h1 | h1
    · obtain ⟨r, hr⟩ := playTo_get o f m mn s i j h1
      refine ⟨r, ?_⟩
      rw [← hr]
      simp only [List.getD]
      rw [List.getElem?_append_left (by omega)]
    · obtain rfl : j = i := by omega
      refine ⟨doF o (playTo o f m mn s j).2 (f j).k (f j).x (f j).y, ?_⟩
      simp only [List.getD]
      rw [List.getElem?_append_right (by omega), hl]
      simp
theorem early_nonneg {m : Nat → Int} {mn : Nat} (h : ∀ i, i < mn → 0 ≤ m i) (i : Nat) : 0 ≤ earlyF m mn i ∧ 0 ≤ lateF m mn i := by
  unfold earlyF lateF
  by_cases hi : i < mn
  · have := h i hi
    rw [if_pos hi, if_pos hi]
    omega
  · rw [if_neg hi, if_neg hi]
    omega
theorem playTo_srch (o : Int) (f : Nat → O4) (m : Nat → Int) (mn : Nat) (s : List Int) (h : ∀ i, i < mn → 0 ≤ m i) (k : Nat) : srch o (playTo o f m mn s k).1 k 0 s = some (List.range' 0 k) := by
  have hl := (playTo_len o f m mn s k).1
  refine chain_srch o (playTo o f m mn s k).1 (fun i hi => ?_) k 0 0 s (by omega) (fun j hj => by simp) ?_
  · obtain ⟨r, hr⟩ := playTo_get o f m mn s k i (by omega)
    have := early_nonneg h i
    rw [hr]
    show 10 * (i : Int) - earlyF m mn i ≤ 10 * i ∧ 10 * (i : Int) + 3 ≤ 10 * (i : Int) + 3 + lateF m mn i
    omega
  · rw [List.drop_zero]
    exact (playTo_chain o f m mn s k).1
theorem playTo_fits (o : Int) (f : Nat → O4) (m : Nat → Int) (mn : Nat) (s : List Int) (k : Nat) (hf : ∀ i, i < k → Fits (f i).x ∧ Fits (f i).y) : ∀ c ∈ (playTo o f m mn s k).1, Fits c.x ∧ Fits c.y ∧ c.ln ≤ 9223372036854775807 := by
  intro c hc
  obtain ⟨i, hi, rfl⟩ := List.mem_iff_getElem.1 hc
  have hl := (playTo_len o f m mn s k).1
  obtain ⟨r, hr⟩ := playTo_get o f m mn s k i (by omega)
  have e : (playTo o f m mn s k).1[i] = (playTo o f m mn s k).1.getD i default := by simp [List.getD, hi]
  rw [e, hr]
  obtain ⟨h1, h2⟩ := hf i (by omega)
  exact ⟨h1, h2, by show (0 : Nat) ≤ _; omega⟩
theorem ints_get (k i : Nat) (h : i < k) : (intsF (List.range' 0 k)).getD i 0 = i := by
  simp [intsF, List.getD, h]

/-- played's row, as Linear takes it. -/
theorem played_calls {w1 w2 : World} {v' : Value} {k : Nat} {S : List Cl} (hl : S.length = k) (h : w2.ownsRow w1.heap.size 81 10 v' k (callsV S)) : ∃ ao c, v' = .slice ao k c ∧ CallRow w2 ao S ∧ (ao = none → k = 0 ∧ c = 0) := by
  subst hl
  exact row_calls h

set_option maxRecDepth 100000 in
set_option maxHeartbeats 8000000 in
theorem trueLaw_walk (z : Int) (hz : 0 ≤ z ∧ z < 256) (v : Value) (s : List Int) (oo mo : Option Addr) (n oc mn mc : Nat) (f : Nat → O4) (m : Nat → Int) (w : World) (hO : OpsAt w oo n f) (hM : BytesAt w mo mn m)
    (hf : ∀ i, i < n → Fits (f i).x ∧ Fits (f i).y) (hm : ∀ i, i < mn → 0 ≤ m i) (hs : Nums w v s) (hss : SrcOf w 1 v s.length (numV s)) (hsf : ∀ x ∈ s, Fits x) (hsl : s.length ≤ 1900000) (hn : n ≤ 1000000) (hmn : mn ≤ 2000000) (ht : Tab w) :
    Calls Tryd.prog 6 #[.int .u8 z, v, .slice oo n oc, .slice mo mn mc] w fun e w' => e = .returned (.bool true) ∧ Below w.heap.size w w' := by
  have HFX := Lib.hid (fixed_walk w ht)
  have HPL := Lib.hid (fun (mo : Option Addr) (mn mc : Nat) (m : Nat → Int) (W : World) (h1 : OpsAt W oo n f) (h2 : BytesAt W mo mn m) (h3 : Nums W v s) (h4 : SrcOf W 1 v s.length (numV s)) (h5 : mn ≤ 2000000) => played_walk (1 + z % 5) v s oo mo n oc mn mc f m W h1 h2 h3 h4 (by omega) hn h5)
  obtain ⟨k, hk⟩ : ∃ k, min n 10 = k := ⟨_, rfl⟩
  have hk10 : k ≤ 10 := by omega
  have HKN : Hid (k ≤ n) := Lib.hid (by omega)
  have HF := Lib.hid (fun (m : Nat → Int) (mn : Nat) => playTo_fits (1 + z % 5) f m mn s k (fun i hi => hf i (by omega)))
  have HLEN := Lib.hid (fun (m : Nat → Int) (mn : Nat) => (playTo_len (1 + z % 5) f m mn s k).1)
  have HSR := Lib.hid (fun (m : Nat → Int) (mn : Nat) (h : ∀ i, i < mn → 0 ≤ m i) => playTo_srch (1 + z % 5) f m mn s h k)
  rw [hk] at HPL
  have HLIN : Hid (∀ (S : List Cl), S.length = k → srch (1 + z % 5) S k 0 s = some (List.range' 0 k) → linF (1 + z % 5) S s = (some (List.range' 0 k), 0)) := Lib.hid (fun S hl h => by
    unfold linF
    rw [if_neg (by omega), if_neg (by omega), hl, h])
  have HL16 : Hid (∀ (S : List Cl) (W : World) (v1 : Value) (a2 : Option Addr) (c2 : Nat), S.length = k → srch (1 + z % 5) S k 0 s = some (List.range' 0 k) → (∀ c ∈ S, Fits c.x ∧ Fits c.y ∧ c.ln ≤ 9223372036854775807) → CallRow W a2 S → Tab W → Nums W v1 s →
      Calls Tryd.prog 16 #[.int .i64 (1 + z % 5), v1, .slice a2 k c2] W (fun e w' => ∃ lo lc, e = .returned (.tuple #[.slice lo k lc, .bool true, .int .i64 0]) ∧ (Nums w' (.slice lo k lc) (intsF (List.range' 0 k)) ∧ SrcOf w' 1 (.slice lo k lc) k (numV (intsF (List.range' 0 k)))) ∧ Below W.heap.size W w')) :=
    Lib.hid (fun S W v1 a2 c2 hl hsr hSf hC hT hN => by
      have h := linear_some (linear_walk (1 + z % 5) S a2 k c2 v1 s W hl hC hT (doOk_all _) hSf (by omega) hN hsf (by omega)) (HLIN.out S hl hsr)
      rw [show (intsF (List.range' 0 k)).length = k by simp [intsF]] at h
      exact h)
  have H20 : Hid (∀ (S : List Cl) (v1 v3 : Value) (a2 : Option Addr) (c2 : Nat) (W : World), S.length = k → srch (1 + z % 5) S k 0 s = some (List.range' 0 k) → (∀ c ∈ S, Fits c.x ∧ Fits c.y ∧ c.ln ≤ 9223372036854775807) → Nums W v1 s → CallRow W a2 S → Nums W v3 (intsF (List.range' 0 k)) →
      Calls Tryd.prog 20 #[.int .i64 (1 + z % 5), v1, .slice a2 k c2, v3] W (fun e w' => e = .returned (.bool true) ∧ Below W.heap.size W w')) :=
    Lib.hid (fun S v1 v3 a2 c2 W hl hsr hSf h1 h2 h3 => by
      obtain ⟨a3, c3, e3⟩ := nums_len h3
      rw [e3]
      have hff : followsF (1 + z % 5) S (intsF (List.range' 0 k)) s = true := (srch_follows (by rw [hl]; exact hsr)).1
      have h := follows_walk (1 + z % 5) v1 s a2 a3 k c2 (intsF (List.range' 0 k)).length c3 S (intsF (List.range' 0 k)) W hl h2 (by omega) (fun c hc => (hSf c hc).2.2) (e3 ▸ h3) rfl h1 (by omega) (by simp [intsF]; omega)
      rw [hff] at h
      exact h)
  have HO := Lib.hid hO
  have HM := Lib.hid hM
  have HMP := Lib.hid hm
  have HS := Lib.hid hs
  have HSS := Lib.hid hss
  have HT := Lib.hid ht
  have hz5 : z.tmod 5 = z % 5 := by rw [Int.tmod_eq_emod_of_nonneg hz.1]
  clear hO hM hs hss ht hk hf hm HLIN hsf
  go_enter Tryd.func6, Tryd.ntmps6
  go_wp2_with fail
  refine HFX.out.mono ?_
  rintro e w1 ⟨rfl, hb1⟩
  have HB1 := Lib.hid hb1
  clear hb1
  go_wp2_with fail
  refine (HPL.out mo mn mc m w1 (HO.out.below HB1.out) (HM.out.below HB1.out) (HS.out.below HB1.out) (HSS.out.below HB1.out) hmn).mono ?_
  rintro e w2 ⟨v2, rfl, hr2, hb2⟩
  have HB2 := Lib.hid (HB1.out.trans (hb2.mono HB1.out.size))
  obtain ⟨ao2, c2, rfl, hC2, hn2⟩ := played_calls (HLEN.out m mn) hr2
  have HSF1 := Lib.hid (HF.out m mn)
  have HSR1 := Lib.hid (HSR.out m mn HMP.out)
  have HL1 := Lib.hid (HLEN.out m mn)
  generalize (playTo (1 + z % 5) f m mn s k).1 = S1 at *
  have HC2 := Lib.hid hC2
  have HN2 := Lib.hid hn2
  clear hr2 hb2 hC2 hn2
  obtain ⟨v3, w3, v4, w4, r1, r2, hn4, ⟨a4, c4, rfl, hc4⟩, hb4⟩ := copies2 (W := w2) (HSS.out.below HB2.out) (src_calls HC2.out HL1.out HN2.out) HL1.out (by omega) (by omega)
  have HB4 := Lib.hid (HB2.out.trans (hb4.mono HB2.out.size))
  have H16 := Lib.hid (HL16.out S1 w4 v3 a4 c4 HL1.out HSR1.out HSF1.out hc4 (HT.out.below HB4.out) hn4)
  have HR1 := Lib.hid r1
  have HR2 := Lib.hid r2
  have HC4 := Lib.hid (HC2.out.below hb4)
  clear r1 r2 hn4 hc4 hb4
  go_wp2_with (first
    | (at_builtin; refine Lib.wpList_append_run _ rfl _ _ _ _ rfl _ _ rfl rfl _ _ HR1.out ?_)
    | (at_builtin; refine Lib.wpList_append_run _ rfl _ _ _ _ rfl _ _ rfl rfl _ _ HR2.out ?_))
  refine H16.out.mono ?_
  rintro e w5 ⟨lo, lc, rfl, ⟨hnl, hsl5⟩, hb5⟩
  have HB5 := Lib.hid (HB4.out.trans (hb5.mono HB4.out.size))
  have HC5 := Lib.hid (HC4.out.below hb5)
  obtain ⟨v6, w6, v7, w7, v8, w8, r1, r2, r3, hn8, ⟨a7, c7, rfl, hc7⟩, hq8, hb8⟩ := copies3 (W := w5) (q := intsF (List.range' 0 k)) (HSS.out.below HB5.out) (src_calls HC5.out HL1.out HN2.out) (by rw [show (intsF (List.range' 0 k)).length = k by simp [intsF]]; exact hsl5) HL1.out (by omega) (by omega) (by simp [intsF]; omega)
  have HB8 := Lib.hid (HB5.out.trans (hb8.mono HB5.out.size))
  have HR3 := Lib.hid r1
  have HR4 := Lib.hid r2
  have HR5 := Lib.hid r3
  have H20a := Lib.hid (H20.out S1 v6 v8 a7 c7 w8 HL1.out HSR1.out HSF1.out hn8 hc7 hq8)
  clear r1 r2 r3 hn8 hc7 hq8 hb8 hnl hsl5 hb5
  go_wp2_with (first
    | (at_builtin; refine wpList_append_runG rfl _ _ _ _ rfl _ _ rfl rfl _ _ HR3.out ?_)
    | (at_builtin; refine wpList_append_runG rfl _ _ _ _ rfl _ _ rfl rfl _ _ HR4.out ?_)
    | (at_builtin; refine wpList_append_runG rfl _ _ _ _ rfl _ _ rfl rfl _ _ HR5.out ?_))
  refine H20a.out.mono ?_
  rintro e w9 ⟨rfl, hb9⟩
  have HB9 := Lib.hid (HB8.out.trans (hb9.mono HB8.out.size))
  clear hb9
  go_wp2_with fail
  refine (HPL.out none 0 0 m w9 (HO.out.below HB9.out) (.inl rfl) (HS.out.below HB9.out) (HSS.out.below HB9.out) (by omega)).mono ?_
  rintro e wa ⟨va, rfl, hra, hba⟩
  have HBA := Lib.hid (HB9.out.trans (hba.mono HB9.out.size))
  obtain ⟨aoa, ca, rfl, hCa, hna⟩ := played_calls (HLEN.out m 0) hra
  have HSF2 := Lib.hid (HF.out m 0)
  have HSR2 := Lib.hid (HSR.out m 0 (fun i hi => by omega))
  have HL2 := Lib.hid (HLEN.out m 0)
  generalize (playTo (1 + z % 5) f m 0 s k).1 = S2 at *
  obtain ⟨vb, wb, vc, wc, r1, r2, hnc, ⟨a9, c9, rfl, hcc⟩, hbc⟩ := copies2 (W := wa) (HSS.out.below HBA.out) (src_calls hCa HL2.out hna) HL2.out (by omega) (by omega)
  have HBC := Lib.hid (HBA.out.trans (hbc.mono HBA.out.size))
  have H16b := Lib.hid (HL16.out S2 wc vb a9 c9 HL2.out HSR2.out HSF2.out hcc (HT.out.below HBC.out) hnc)
  have HR6 := Lib.hid r1
  have HR7 := Lib.hid r2
  clear r1 r2 hnc hcc hbc hra hba hCa hna
  go_wp2_with (first
    | (at_builtin; refine Lib.wpList_append_run _ rfl _ _ _ _ rfl _ _ rfl rfl _ _ HR6.out ?_)
    | (at_builtin; refine Lib.wpList_append_run _ rfl _ _ _ _ rfl _ _ rfl rfl _ _ HR7.out ?_))
  refine H16b.out.mono ?_
  rintro e wd ⟨lo2, lc2, rfl, ⟨hnl, _⟩, hbd⟩
  have HBD := Lib.hid (HBC.out.trans (hbd.mono HBC.out.size))
  have HNL := Lib.hid hnl
  clear hnl hbd
  go_wp2_with fail
  go_loopw [16] (fun iv wr => ∃ i : Nat, i ≤ k ∧ iv = .int .i64 i ∧ Below wd.heap.size wd wr) (fun iv _ => k - (intOf iv).toNat)
  case atStart => exact ⟨0, by omega, rfl, Below.refl _ _⟩
  case round =>
    obtain ⟨i, hi, rfl, hlow⟩ := hrel
    have HL := Lib.hid hlow
    by_cases hlt : i < k
    · obtain ⟨_, ga, oa, rfl, hca⟩ := nums_cell HNL.out hlt
      have h1 := (hlow.cell (p := ⟨ga, oa + i, none⟩) (World.block_lt_of_cell? wd _ hca)).trans hca
      rw [ints_get k i hlt] at h1
      clear hlow hca
      go_wp2_with (go_quiet (fail))
      go_roundw
      case rel => exact ⟨i + 1, by omega, by go_num, HL.out⟩
      case measure => simp [intOf]; omega
    · obtain rfl : i = k := by omega
      clear hlow
      go_wp2_with fail
      go_ret
      exact ⟨rfl, HBD.out.trans (HL.out.mono HBD.out.size)⟩
end Go.Proofs.YtfcaebceklhbkaaDoor
