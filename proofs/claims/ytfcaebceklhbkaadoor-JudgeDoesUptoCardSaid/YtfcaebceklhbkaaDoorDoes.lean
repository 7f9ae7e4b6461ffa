/-
  The law JudgeDoes (f3): the walk.
-/
import Derived.Test.YtfcaebceklhbkaaDoorRefDo
import Derived.Test.YtfcaebceklhbkaaDoorSameN
namespace Go.Proofs.YtfcaebceklhbkaaDoor
open Go.RowKit
set_option linter.unusedVariables false

/-- A slice of operations, as it reads. -/
def OpRow (w : World) (ao : Option Addr) (n : Nat) : Prop :=
  n = 0 ∨ ∃ g o, ao = some ⟨g, o, none⟩ ∧ ∀ i, i < n → ∃ k a b c : Int, w.cell? ⟨g, o + i * 4, none⟩ = some (.int .i64 k) ∧ w.cell? ⟨g, o + i * 4 + 1, none⟩ = some (.int .i64 a) ∧ w.cell? ⟨g, o + i * 4 + 2, none⟩ = some (.int .i64 b) ∧ w.cell? ⟨g, o + i * 4 + 3, none⟩ = some (.int .i64 c)
theorem OpRow.below {w w' : World} {ao : Option Addr} {n : Nat} (h : OpRow w ao n) (hb : Below w.heap.size w w') : OpRow w' ao n := by
  rcases h with h | ⟨g, o, e, h⟩
  · exact .inl h
  · refine .inr ⟨g, o, e, fun i hi => ?_⟩
    obtain ⟨k, a, b, c, h0, h1, h2, h3⟩ := h i hi
    have m : ∀ {x : Nat} {v : Value}, w.cell? ⟨g, x, none⟩ = some v → w'.cell? ⟨g, x, none⟩ = some v := fun hx => (hb.cell (p := ⟨g, _, none⟩) (World.block_lt_of_cell? w _ hx)).trans hx
    exact ⟨k, a, b, c, m h0, m h1, m h2, m h3⟩

/-- append(append([]int64{}, state...), 77): the row, and a part of it. -/
structure Mark (N : Nat) (w' : World) (l : List Int) (z : Int) (s : Value) : Prop where
  at_ : ∃ g cap, s = .slice (some ⟨g, 0, none⟩) (l.length + 1) cap ∧ l.length + 1 ≤ cap ∧ N ≤ g ∧ g < w'.heap.size ∧ w'.cell? ⟨g, l.length, none⟩ = some (.int .i64 z) ∧ ∀ i, i < l.length → w'.cell? ⟨g, i, none⟩ = some (.int .i64 (l.getD i 0))
theorem mark_of {N : Nat} {w w' : World} {l : List Int} {z : Int} {s s0 : Value} (h : Appended w N 2 1 s0 l.length 1 (numV l ++ [.int .i64 z]) s w') : Mark N w' l z s := by
  obtain ⟨h1, h2, h3⟩ := h
  rcases h3 with ⟨_, _, h0, _⟩ | ⟨g, cap, rfl, hc, _⟩
  · cases h0
  · have hcell := fun i u => h1.cells (g := g) rfl i u
    have hlt := h1.lt g rfl
    refine ⟨g, cap, rfl, hc, hlt.1, hlt.2, ?_, fun i hi => ?_⟩
    · have := hcell l.length (.int .i64 z) (by simp [numV])
      rw [addr_add] at this
      simpa using this
    · have := hcell i (.int .i64 (l.getD i 0)) (by simp [numV, List.getElem?_append_left, hi, List.getD])
      rw [addr_add] at this
      simpa using this
theorem SrcOf.below {w w' : World} {k m : Nat} {x : Value} {news : List Value} (h : SrcOf w k x m news) (hb : Below w.heap.size w w') : SrcOf w' k x m news := by
  obtain ⟨h1, h2, h3⟩ := h
  refine ⟨h1, h2, ?_⟩
  rcases h3 with h | ⟨ad, c, e, h⟩
  · exact .inl h
  · exact .inr ⟨ad, c, e, fun j u hu => (hb.cell (World.block_lt_of_cell? w _ (h j u hu))).trans (h j u hu)⟩

set_option maxRecDepth 100000 in
set_option maxHeartbeats 8000000 in
theorem does_walk (o : Int) (v : Value) (l : List Int) (io : Option Addr) (n ic : Nat) (w : World) (hv : Nums w v l) (hs : SrcOf w 1 v l.length (numV l)) (hl : l.length ≤ 1500000) (hop : OpRow w io n) (hn : n ≤ 1500000)
    (hfix : Calls Tryd.prog 11 #[] w fun e w' => e = .returned (.bool true) ∧ Below w.heap.size w w') :
    Calls Tryd.prog 3 #[.int .i64 o, v, .slice io n ic] w fun e w' => e = .returned (.bool true) ∧ Below w.heap.size w w' := by
  obtain ⟨i0, hi0, hz0, hz1, hz2⟩ := info_parts info2
  have HFX := Lib.hid hfix
  have HV := Lib.hid hv
  have HSV := Lib.hid hs
  have HO := Lib.hid hop
  obtain ⟨vo, vc, rfl⟩ := nums_len hv
  have HDo := Lib.hid (doOk_all o)
  clear hfix hv hop hs
  generalize hN : w.heap.size = N at *
  have HN := Lib.hid hN
  generalize hll : l.length = ln at *
  have HLL := Lib.hid hll
  clear hN hll
  go_enter Tryd.func3, Tryd.ntmps3
  go_wp2_with fail
  refine HFX.out.mono ?_
  rintro e w1 ⟨rfl, hb1⟩
  have hs1 : N ≤ w1.heap.size := by have := hb1.size; have := HN.out; omega
  have HB1 := Lib.hid hb1
  have HSX := Lib.hid ((HSV.out.below (by rw [HN.out]; exact hb1)).below ((Below.refl _ _).alloc (Nat.le_refl _) (.cells #[] 2)))
  have HOW : Hid ((w1.alloc (.cells #[] 2)).ownsRow w1.heap.size 2 1 (.slice (some ⟨w1.heap.size, 0, none⟩) 0 0) 0 []) := ⟨rfl, .inr ⟨w1.heap.size, 0, #[], rfl, Nat.le_refl _, heap_alloc_new w1 _, Nat.le_refl _, by decide, rfl, rfl⟩⟩
  clear hb1
  go_wp2_with (first
    | (at_builtin; refine wpList_append_row rfl (.tmp 17) (.tmp 18) 22 rfl w1.heap.size 2 i0 _ 1 8 Tryd.underlying22 hi0 hz0 hz1 (by decide) hz2 rfl (.slice (some ⟨w1.heap.size, 0, none⟩) 0 0) 0 [] rfl HOW.out ln (numV l) HSX.out ?l2 ?b2 ?n2 ?_; go_must (case l2 => (unfold maxLen; omega)); go_must (case b2 => omega); go_must (case n2 => (simp)); intro v2 w2 ha; have HA2 := Lib.hid ha; have HOW2 := Lib.hid (World.ownsRow.alloc (ha.1) (.cells #[.int .i64 77] 2)); have HS2 := Lib.hid (src_one0 w2 #[.int .i64 77] 2 1 rfl (by intro u hu; simp at hu; subst hu; rfl)); clear ha)
    | (at_builtin; go_must (refine wpList_append_row rfl (.tmp 19) (.tmp 20) 22 rfl w1.heap.size 2 i0 _ 1 8 Tryd.underlying22 hi0 hz0 hz1 (by decide) hz2 rfl v2 (0 + ln) ([] ++ numV l) rfl HOW2.out 1 [.int .i64 77] HS2.out ?l2 ?b2 ?n2 ?_); go_must (case l2 => (unfold maxLen; omega)); go_must (case b2 => omega); go_must (case n2 => (have := HA2.out.2.1.size; simp at this; simp; omega)); intro v3 w3 ha; have HA3 := Lib.hid ha; obtain ⟨⟨g, cap, hv3, hc3, hg3, hgs3, hz3, hx3⟩⟩ := mark_of (l := l) (z := 77) (s0 := v2) (by simpa [HLL.out] using ha); rw [HLL.out] at hv3 hc3 hz3 hx3; subst hv3; have HX3 := Lib.hid hx3; clear ha hx3))
  have hw3 : Hid (Below N w w3) := by
    obtain ⟨h1, h2, _⟩ := HA2.out
    have hs2 := h2.size
    simp at hs2
    refine Lib.hid (Below.grown ((Below.grown ((HB1.out).alloc hs1 (.cells #[] 2)) h2 (by simp; omega) (fun k hk => ?_)).alloc (by omega) (.cells #[.int .i64 77] 2)) HA3.out.2.1 (by simp; omega) (fun k hk => ?_))
    · cases hk; exact hs1
    · exact Nat.le_trans hs1 (h1.lt k hk).1
  have hsw3 : N ≤ w3.heap.size := by omega
  have HV3 : Hid (Nums w3 (.slice vo ln vc) l) := Lib.hid (HV.out.below (by rw [HN.out]; exact hw3.out))
  have HA : Hid (Nums w3 (.slice (some ⟨g, 0, none⟩) ln cap) l) := Lib.hid ⟨some ⟨g, 0, none⟩, cap, by rw [HLL.out], .inr ⟨g, 0, rfl, fun i hi => by rw [Nat.zero_add]; exact HX3.out i (by rw [← HLL.out]; exact hi)⟩⟩
  have HO3 : Hid (OpRow w3 io n) := Lib.hid (HO.out.below (by rw [HN.out]; exact hw3.out))
  have HZ3 := Lib.hid hz3
  clear HA2 HA3 HOW2 HS2 HOW HSX hz3
  go_wp2_with fail
  go_loopw [8, 9, 10] (fun av bv iv wr => ∃ i : Nat, i ≤ n ∧ iv = .int .i64 i ∧ (∃ st : List Int, st.length ≤ ln + i ∧ Nums wr av st ∧ Nums wr bv st) ∧ Below w3.heap.size w3 wr) (fun _ _ iv _ => n - (intOf iv).toNat)
  case atStart => exact ⟨0, by omega, rfl, ⟨l, by rw [HLL.out]; omega, HA.out, HV3.out⟩, Below.refl _ _⟩
  case round =>
    obtain ⟨i, hi, rfl, ⟨st, hst, hna, hnb⟩, hlow⟩ := hrel
    have HNA := Lib.hid hna
    have HNB := Lib.hid hnb
    have HL := Lib.hid hlow
    clear hna hnb hlow
    by_cases hlt : i < n
    · obtain ⟨og, oo, rfl, hcc⟩ : ∃ og oo, io = some ⟨og, oo, none⟩ ∧ ∃ k a b c : Int, w3.cell? ⟨og, oo + i * 4, none⟩ = some (.int .i64 k) ∧ w3.cell? ⟨og, oo + i * 4 + 1, none⟩ = some (.int .i64 a) ∧ w3.cell? ⟨og, oo + i * 4 + 2, none⟩ = some (.int .i64 b) ∧ w3.cell? ⟨og, oo + i * 4 + 3, none⟩ = some (.int .i64 c) := by
        rcases HO3.out with h | ⟨og, oo, e, h⟩
        · omega
        · exact ⟨og, oo, e, h i hlt⟩
      obtain ⟨k, a, b, c, h0, h1, h2, h3⟩ := hcc
      have m : ∀ {W : World} {x : Nat} {v : Value}, Below w3.heap.size w3 W → w3.cell? ⟨og, x, none⟩ = some v → W.cell? ⟨og, x, none⟩ = some v := fun hb hx => (hb.cell (p := ⟨og, _, none⟩) (World.block_lt_of_cell? w3 _ hx)).trans hx
      have HM := Lib.hid (fun W (hb : Below w3.heap.size w3 W) => And.intro (m hb h0) (And.intro (m hb h1) (And.intro (m hb h2) (m hb h3))))
      obtain ⟨c0, c1, c2, c3⟩ := HM.out wr HL.out
      have HD1 := Lib.hid (HDo.out u8 st k a b c wr HNA.out (by omega))
      have HD2 := Lib.hid (fun W h => refDo_walk o u9 st k a b c W h (show st.length ≤ 4000000 by omega))
      have hxl := doF_length o st k a b
      clear m h0 h1 h2 h3
      unfold opV at HD1 HD2
      generalize doF o st k a b = x at *
      obtain ⟨xl, xo, xn⟩ := x
      simp only at hxl
      go_wp2_with fail
      refine HD1.out.mono ?_
      rintro e w4 ⟨v4, rfl, ho4, hb4⟩
      have HN4 := Lib.hid ho4.nums
      have HB4 := Lib.hid hb4
      have hsz4 : wr.heap.size ≤ w4.heap.size := hb4.size
      have hL4 : Below w3.heap.size w3 (w4.alloc (.cells #[.bool xo, .int .i64 xn, .slice none 0 0] 26)) := (HL.out.trans (hb4.mono HL.out.size)).alloc (Nat.le_trans HL.out.size hsz4) _
      obtain ⟨d0, d1, d2, d3⟩ := HM.out _ hL4
      have HL4 := Lib.hid hL4
      have HA4 : Hid ((w4.alloc (.cells #[.bool xo, .int .i64 xn, .slice none 0 0] 26)).heap[w4.heap.size]? = some (.cells #[.bool xo, .int .i64 xn, .slice none 0 0] 26 (0, 0))) := heap_alloc_new _ _
      have HX4 := Lib.hid (HN4.out.below ((Below.refl _ _).alloc (Nat.le_refl _) (.cells #[.bool xo, .int .i64 xn, .slice none 0 0] 26)))
      have HY4 := Lib.hid (HNB.out.below (hb4.alloc hsz4 (.cells #[.bool xo, .int .i64 xn, .slice none 0 0] 26)))
      unfold ansV at *
      simp only at *
      clear hb4 ho4 hL4 c0 c1 c2 c3
      go_wp2_with fail
      generalize w4.alloc (.cells #[.bool xo, .int .i64 xn, .slice none 0 0] 26) = w5 at *
      generalize w4.heap.size = p4 at *
      refine (HD2.out _ HY4.out).mono ?_
      rintro e w6 ⟨v6, rfl, ho6, hb6⟩
      have hsz6 : w5.heap.size ≤ w6.heap.size := hb6.size
      have hb6' := hb6.alloc hsz6 (.cells #[.bool xo, .int .i64 xn, .slice none 0 0] 26)
      have HL6 := Lib.hid (HL4.out.trans (hb6'.mono HL4.out.size))
      have HX6 := Lib.hid (HX4.out.below hb6')
      have HY6 := Lib.hid (ho6.nums.below ((Below.refl _ _).alloc (Nat.le_refl _) (.cells #[.bool xo, .int .i64 xn, .slice none 0 0] 26)))
      have HA6 := Lib.hid ((hb6'.block p4 (Array.getElem?_eq_some_iff.1 HA4.out).1).trans HA4.out)
      have HC6 : Hid ((w6.alloc (.cells #[.bool xo, .int .i64 xn, .slice none 0 0] 26)).heap[w6.heap.size]? = some (.cells #[.bool xo, .int .i64 xn, .slice none 0 0] 26 (0, 0))) := heap_alloc_new _ _
      clear hb6 hb6' ho6 d0 d1 d2 d3
      unfold ansV at *
      simp only at *
      go_wp2_with fail
      generalize w6.alloc (.cells #[.bool xo, .int .i64 xn, .slice none 0 0] 26) = w7 at *
      generalize w6.heap.size = p6 at *
      refine (sameNums_walk v4 v6 xl w7 HX6.out HY6.out (by omega)).mono ?_
      rintro e w8 ⟨rfl, hb8⟩
      have r4 := (hb8.block p4 (Array.getElem?_eq_some_iff.1 HA6.out).1).trans HA6.out
      have r6 := (hb8.block p6 (Array.getElem?_eq_some_iff.1 HC6.out).1).trans HC6.out
      have q6 : ∀ x, (w8.alloc x).heap[p6]? = some (.cells #[.bool xo, .int .i64 xn, .slice none 0 0] 26 (0, 0)) := fun x => (Below.heap_alloc _ _ _ (Array.getElem?_eq_some_iff.1 r6).1).trans r6
      have s0 := (cell_of r4 0).trans rfl
      have s1 := (cell_of r4 1).trans rfl
      have s2 := (cell_of r4 2).trans rfl
      have t0 : ∀ x, (w8.alloc x).cell? ⟨p6, 0, none⟩ = some (.bool xo) := fun x => (cell_of (q6 x) 0).trans rfl
      have t1 : ∀ x, (w8.alloc x).cell? ⟨p6, 1, none⟩ = some (.int .i64 xn) := fun x => (cell_of (q6 x) 1).trans rfl
      have t2 : ∀ x, (w8.alloc x).cell? ⟨p6, 2, none⟩ = some (.slice none 0 0) := fun x => (cell_of (q6 x) 2).trans rfl
      have HL8 := Lib.hid (HL6.out.trans (hb8.mono HL6.out.size))
      have HX8 := Lib.hid (HX6.out.below hb8)
      have HY8 := Lib.hid (HY6.out.below hb8)
      clear r4 r6 q6 hb8
      go_wp2_with fail
      have hsz8 := HL8.out.size
      have hb9 : Below w8.heap.size w8 ((w8.alloc (.cells #[.bool xo, .int .i64 xn, .slice none 0 0] 26)).alloc (.cells #[.bool xo, .int .i64 xn, .slice none 0 0] 26)) := below_two _ _ _
      have ha9 : ((w8.alloc (.cells #[.bool xo, .int .i64 xn, .slice none 0 0] 26)).alloc (.cells #[.bool xo, .int .i64 xn, .slice none 0 0] 26)).heap[w8.heap.size]? = some (.cells #[.bool xo, .int .i64 xn, .slice none 0 0] 26 (0, 0)) := (Below.heap_alloc _ _ _ (by simp)).trans (heap_alloc_new _ _)
      have hc9 : ((w8.alloc (.cells #[.bool xo, .int .i64 xn, .slice none 0 0] 26)).alloc (.cells #[.bool xo, .int .i64 xn, .slice none 0 0] 26)).heap[w8.heap.size + 1]? = some (.cells #[.bool xo, .int .i64 xn, .slice none 0 0] 26 (0, 0)) := by
        have := heap_alloc_new (w8.alloc (.cells #[.bool xo, .int .i64 xn, .slice none 0 0] 26)) (.cells #[.bool xo, .int .i64 xn, .slice none 0 0] 26)
        simpa using this
      refine (sameAns_walk w8.heap.size (w8.heap.size + 1) xo xn _ ha9 hc9).mono ?_
      rintro e wa ⟨rfl, hba⟩
      have hb := hb9.trans (hba.mono hb9.size)
      have HLA := Lib.hid (HL8.out.trans (hb.mono HL8.out.size))
      have HXA := Lib.hid (HX8.out.below hb)
      have HYA := Lib.hid (HY8.out.below hb)
      clear hb9 ha9 hc9 hba hb
      go_wp2_with fail
      go_roundw
      case rel => exact ⟨i + 1, by omega, by go_num, ⟨xl, by omega, HXA.out, HYA.out⟩, HLA.out⟩
      case measure => simp [intOf]; omega
    · obtain rfl : i = n := by omega
      have hz := (HL.out.cell (p := ⟨g, ln, none⟩) hgs3).trans HZ3.out
      have HA4 := Lib.hid (HA.out.below HL.out)
      have HV4 := Lib.hid (HV3.out.below HL.out)
      go_wp2_with fail
      refine (sameNums_walk _ _ l wr HA4.out HV4.out (by rw [HLL.out]; omega)).mono ?_
      rintro e w4 ⟨rfl, hb4⟩
      have HB4 := Lib.hid hb4
      clear hb4
      go_wp2_with fail
      go_ret
      refine ⟨rfl, ?_⟩
      exact hw3.out.trans ((HL.out.mono hsw3).trans (HB4.out.mono (Nat.le_trans hsw3 HL.out.size)))
end Go.Proofs.YtfcaebceklhbkaaDoor
