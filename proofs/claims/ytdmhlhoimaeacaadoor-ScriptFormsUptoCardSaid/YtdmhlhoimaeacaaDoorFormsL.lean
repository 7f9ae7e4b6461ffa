/-
  The law ScriptForms (f8).
-/
import Derived.Test.YtdmhlhoimaeacaaDoorLinesL
namespace Go.Proofs.YtdmhlhoimaeacaaDoor
open Go.RowKit Go.Maps PL
set_option linter.unusedVariables false

/-! Plain: the law's own text, line by line. -/
theorem mix_snoc (k : Nat) : ∀ (ls : List Word) (j : Nat) (x : Word), mixF k j (ls ++ [x]) = mixF k j ls ++ ((if j + ls.length = k then [wComment, wBlank] else []) ++ [padF x])
  | [], j, x => by simp [mixF]
  | l :: ls, j, x => by
    have ih := mix_snoc k ls (j + 1) x
    show (if j = k then [wComment, wBlank] else []) ++ padF l :: mixF k (j + 1) (ls ++ [x]) = ((if j = k then [wComment, wBlank] else []) ++ padF l :: mixF k (j + 1) ls) ++ _
    rw [ih, show j + (l :: ls).length = j + 1 + ls.length by simp; omega]
    simp
theorem mix_take {ls : List Word} {i k : Nat} (h : i < ls.length) : joinL (mixF k 0 (ls.take (i + 1))) = joinL (mixF k 0 (ls.take i)) ++ (if i = k then joinL [wComment, wBlank] else []) ++ ([9, 32] ++ ls.getD i [] ++ [32, 32, 10]) := by
  have hl : (ls.take i).length = i := by simp; omega
  rw [take_snoc h [], mix_snoc, hl, Nat.zero_add, joinL_app, joinL_app]
  have e : joinL [padF (ls.getD i [])] = [9, 32] ++ ls.getD i [] ++ [32, 32, 10] := by simp [joinL, padF]
  rw [e]
  split
  · simp
  · simp [joinL]

set_option maxRecDepth 100000 in
set_option maxHeartbeats 8000000 in
theorem forms_law (N : Nat) (t : Word) (an : Nat) (w : World) (hE : Env N w) (hs : t.length ≤ 100000000) (ha : an < 65536) :
    Calls Tryd.prog 8 #[.string ⟨t.toArray⟩, .int .u16 (an : Int)] w fun e w' => e = .returned (.bool true) ∧ Below w.heap.size w w' := by
  have HE := Lib.hid hE
  have HR := Lib.hid (reads_walkS N w hE)
  have HP := Lib.hid (fun W hW => parse_walk N ⟨t.toArray⟩ W hW (by rw [size_mk]; omega))
  simp only at HP
  have hsz := size_mk t
  have HOR := Lib.hid (parse_good_or t)
  have HMX := Lib.hid (fun k h => parse_mix (t := t) (k := k) h)
  have HLI := Lib.hid (fun W => refLines_walk t W (by omega))
  have HTOT : Hid (∀ i, (joinL ((linesA t).take i)).length ≤ t.length + 1) := Lib.hid (fun i => Nat.le_trans (joinL_take _ i) (joinL_total _ t))
  have HMEM : Hid (∀ l ∈ linesA t, l.length ≤ t.length + 1) := Lib.hid (fun l hl => Nat.le_trans (joinL_mem hl) (joinL_total _ t))
  have hLA : linesF t.length t = linesA t := rfl
  rw [hLA] at HOR HMX
  clear hE hLA
  generalize parseF t = R at *
  generalize hls : linesA t = ls at *
  clear hls
  obtain ⟨er, n, S⟩ := R
  simp only at *
  go_enter Tryd.func8, Tryd.ntmps8
  go_wp2_with fail
  refine HR.out.mono ?_
  rintro e w1 ⟨rfl, hb1⟩
  have HB1 := Lib.hid hb1
  have HE1 := Lib.hid (HE.out.up hb1)
  clear hb1 HR
  go_wp2_with fail
  refine (HP.out _ HE1.out).mono ?_
  rintro e w2 ⟨xt, xh, xs, XV, rfl, hrw, _, hb2⟩
  have HRX := Lib.hid hrw.read
  obtain ⟨p1, c1, rfl, _, _⟩ := hrw.read.tops
  obtain ⟨p2, c2, rfl, _, _⟩ := hrw.read.thrs
  obtain ⟨p3, c3, rfl, _, _⟩ := hrw.read.sch
  have HB2 := Lib.hid (HB1.out.trans (hb2.mono HB1.out.size))
  have HX2 := Lib.hid (heap_alloc_new w2 (.cells #[.slice p1 S.tops.length c1, .slice p2 S.thrs.length c2, .slice p3 S.sch.length c3, .int .i64 S.most] 27))
  have HL2 : Hid (Below w2.heap.size w2 (w2.alloc (.cells #[.slice p1 S.tops.length c1, .slice p2 S.thrs.length c2, .slice p3 S.sch.length c3, .int .i64 S.most] 27))) := Lib.hid ((Below.refl _ _).alloc (Nat.le_refl _) _)
  have HS2 : Hid ((w2.alloc (.cells #[.slice p1 S.tops.length c1, .slice p2 S.thrs.length c2, .slice p3 S.sch.length c3, .int .i64 S.most] 27)).heap.size = w2.heap.size + 1) := Lib.hid (by simp)
  clear hrw hb2 HP
  go_upto_region 4 with fail
  generalize w2.alloc (.cells #[.slice p1 S.tops.length c1, .slice p2 S.thrs.length c2, .slice p3 S.sch.length c3, .int .i64 S.most] 27) = w3 at *
  have HW : Hid (∀ W, Below w3.heap.size w3 W → ScrAt W (.slice p1 S.tops.length c1) (.slice p2 S.thrs.length c2) (.slice p3 S.sch.length c3) XV S ∧ Env N W ∧ W.heap[w2.heap.size]? = some (.cells #[.slice p1 S.tops.length c1, .slice p2 S.thrs.length c2, .slice p3 S.sch.length c3, .int .i64 S.most] 27 (0, 0)) ∧ Below w.heap.size w W) := Lib.hid (fun W hW => by
    have h1 : Below w2.heap.size w2 W := HL2.out.trans (hW.mono (by have := HS2.out; omega))
    have h2 : Below w.heap.size w W := HB2.out.trans (h1.mono HB2.out.size)
    exact ⟨HRX.out.below h1, HE.out.up h2, (hW.block w2.heap.size (by have := HS2.out; omega)).trans HX2.out, h2⟩)
  generalize hsb : w2.heap.size = sb at *
  clear hsb HRX HX2 HL2
  have HKC : Hid (∀ W, Below w3.heap.size w3 W → W.cell? ⟨sb, 0, none⟩ = some (.slice p1 S.tops.length c1) ∧ W.cell? ⟨sb, 1, none⟩ = some (.slice p2 S.thrs.length c2) ∧ W.cell? ⟨sb, 2, none⟩ = some (.slice p3 S.sch.length c3) ∧ W.cell? ⟨sb, 3, none⟩ = some (.int .i64 S.most)) := Lib.hid (fun W hW => by
    have hx := (HW.out W hW).2.2.1
    exact ⟨(cell_of hx 0).trans rfl, (cell_of hx 1).trans rfl, (cell_of hx 2).trans rfl, (cell_of hx 3).trans rfl⟩)
  obtain ⟨a0, a1, a2, a3⟩ := HKC.out w3 (Below.refl _ _)
  by_cases h0 : er = 0
  case neg =>
    have hb0 : (er != 0) = true := by simpa using h0
    obtain ⟨h1, hse⟩ : 1 ≤ n ∧ S = Scr.empty := by
      rcases HOR.out with ⟨_, q, _⟩ | ⟨_, q, _, q2⟩
      · exact absurd q h0
      · exact ⟨q, q2⟩
    subst hse
    have hn0 : (n : Int) > 0 := by omega
    have HZE : Hid (SmallS Scr.empty) := Lib.hid (good_small good_empty)
    have HSE : Hid (∀ W, ScrAt W (.slice none 0 0) (.slice none 0 0) (.slice none 0 0) (fun _ => .nilIface) Scr.empty) := Lib.hid (fun W => ⟨⟨none, 0, rfl, Nat.zero_le _, .inl rfl⟩, ⟨none, 0, rfl, Nat.zero_le _, .inl rfl⟩, ⟨none, 0, rfl, Nat.zero_le _, .inl rfl⟩, fun i hi => absurd hi (by simp [Scr.empty])⟩)
    have HSM : Hid (∀ W, Below w3.heap.size w3 W → Calls Tryd.prog 26 #[.agg #[.slice p1 Scr.empty.tops.length c1, .slice p2 Scr.empty.thrs.length c2, .slice p3 Scr.empty.sch.length c3, .int .i64 Scr.empty.most], .agg #[.slice none 0 0, .slice none 0 0, .slice none 0 0, .int .i64 0]] W fun e w' => e = .returned (.bool true) ∧ Below W.heap.size W w') := Lib.hid (fun W hW => by
      have h := sameS_walk (.slice p1 Scr.empty.tops.length c1) (.slice p2 Scr.empty.thrs.length c2) (.slice p3 Scr.empty.sch.length c3) (.slice none 0 0) (.slice none 0 0) (.slice none 0 0) XV (fun _ => .nilIface) Scr.empty Scr.empty W (HW.out W hW).1 (HSE.out W) HZE.out HZE.out
      rw [decide_eq_true (show Scr.empty = Scr.empty from rfl)] at h
      exact h)
    clear h0
    go_wp2_with fail
    refine (HSM.out _ (Below.refl _ _)).mono ?_
    rintro e w4 ⟨rfl, hb4⟩
    have HB4 := Lib.hid (HW.out w4 hb4).2.2.2
    clear hb4 a0 a1 a2 a3
    go_wp2_with fail
    go_ret
    exact ⟨rfl, HB4.out⟩
  have hb0 : (er != 0) = false := by simpa using h0
  have HG : Hid (GoodScr S) := Lib.hid (by
    rcases HOR.out with ⟨q, _⟩ | ⟨q, _⟩
    · exact q
    · exact absurd h0 q)
  have HMX2 := Lib.hid (fun k => HMX.out k h0)
  have HPP := Lib.hid (parse_print HG.out)
  have HCG := Lib.hid (check_of_good HG.out)
  have hpl := printF_len HG.out
  have HPA := Lib.hid (fun W hW => parse_walk N ⟨(printF S).toArray⟩ W hW (by rw [size_mk]; omega))
  simp only [HPP.out] at HPA
  have HPR : Hid (∀ W, Below w3.heap.size w3 W → Calls Tryd.prog 17 #[.agg #[.slice p1 S.tops.length c1, .slice p2 S.thrs.length c2, .slice p3 S.sch.length c3, .int .i64 S.most]] W (PrintD S W)) := Lib.hid (fun W hW => print_walk N _ _ _ XV S W (HW.out W hW).2.1 (HW.out W hW).1 (good_small HG.out) (good_nums HG.out))
  unfold PrintD at HPR
  rw [HCG.out, if_pos rfl] at HPR
  generalize printF S = tx at *
  clear HPP HMX HOR h0 HCG
  go_wp2_with fail
  refine (HPR.out _ (Below.refl _ _)).mono ?_
  rintro e w4 ⟨rfl, hb4⟩
  have HB4 := Lib.hid hb4
  clear hb4 a0 a1 a2 a3
  go_wp2_with fail
  refine (HPA.out _ (HW.out _ HB4.out).2.1).mono ?_
  rintro e w5 ⟨yt, yh, ys, YV, rfl, hrw, _, hb5⟩
  have HRY := Lib.hid hrw.read
  obtain ⟨q1, d1, rfl, _, _⟩ := hrw.read.tops
  obtain ⟨q2, d2, rfl, _, _⟩ := hrw.read.thrs
  obtain ⟨q3, d3, rfl, _, _⟩ := hrw.read.sch
  have HB5 := Lib.hid (HB4.out.trans (hb5.mono HB4.out.size))
  have HX5 := Lib.hid (heap_alloc_new w5 (.cells #[.slice q1 S.tops.length d1, .slice q2 S.thrs.length d2, .slice q3 S.sch.length d3, .int .i64 S.most] 27))
  have HL5 : Hid (Below w5.heap.size w5 (w5.alloc (.cells #[.slice q1 S.tops.length d1, .slice q2 S.thrs.length d2, .slice q3 S.sch.length d3, .int .i64 S.most] 27))) := Lib.hid ((Below.refl _ _).alloc (Nat.le_refl _) _)
  have HS5 : Hid ((w5.alloc (.cells #[.slice q1 S.tops.length d1, .slice q2 S.thrs.length d2, .slice q3 S.sch.length d3, .int .i64 S.most] 27)).heap.size = w5.heap.size + 1) := Lib.hid (by simp)
  clear hrw hb5 HPA HPR
  go_upto_region 8 with fail
  generalize w5.alloc (.cells #[.slice q1 S.tops.length d1, .slice q2 S.thrs.length d2, .slice q3 S.sch.length d3, .int .i64 S.most] 27) = w6 at *
  have HB6 := Lib.hid (HB5.out.trans (HL5.out.mono HB5.out.size))
  generalize hxb : w5.heap.size = xb at *
  have HXBE := Lib.hid hxb
  clear hxb
  obtain ⟨a0, a1, a2, a3⟩ := HKC.out w6 HB6.out
  have b0 := (cell_of HX5.out 0).trans rfl
  have b1 := (cell_of HX5.out 1).trans rfl
  have b2 := (cell_of HX5.out 2).trans rfl
  have b3 := (cell_of HX5.out 3).trans rfl
  have HSM := Lib.hid (sameS_walk _ _ _ _ _ _ YV XV S S w6 (HRY.out.below (by rw [HXBE.out]; exact HL5.out)) (HW.out _ HB6.out).1 (good_small HG.out) (good_small HG.out))
  rw [decide_eq_true (show S = S from rfl)] at HSM
  go_wp2_with fail
  refine HSM.out.mono ?_
  rintro e w7 ⟨rfl, hb7⟩
  have HB7 := Lib.hid (HB6.out.trans (hb7.mono HB6.out.size))
  clear a0 a1 a2 a3 b0 b1 b2 b3 hb7 HSM HRY HX5
  go_wp2_with fail
  refine (HLI.out w7).mono ?_
  rintro e w8 ⟨p, c, rfl, hrow, hb8, hlc, hln2⟩
  have HB8 := Lib.hid (HB7.out.trans (hb8.mono HB7.out.size))
  have HR8 := Lib.hid (RowAt.of_own hrow)
  clear hrow hb8 HLI
  generalize hlen : ls.length = len at *
  have HLEN := Lib.hid hlen
  clear hlen
  have HT0 : Hid (TxO w8.heap.size w8 (.slice none 0 0) [] w8) := Lib.hid ⟨⟨.inl ⟨rfl, .inl ⟨rfl, rfl⟩⟩, Below.refl _ _, Nat.le_refl _⟩, ⟨rfl, .inl ⟨rfl, rfl⟩⟩⟩
  go_upto_if 65 with fail
  go_cut [15, 65] (fun kv _ wx => wx = w8 ∧ ∃ kn : Nat, kv = .int .i64 kn)
  case first =>
    by_cases hl0 : len = 0
    · subst hl0
      go_wp2_with fail
      go_meet
      exact ⟨rfl, 0, rfl⟩
    · have hg : (len : Int) > 0 := by omega
      have hne : ¬ (len : Int) = 0 := by omega
      have hm : (an : Int).tmod (len : Int) = ((an % len : Nat) : Int) := by rw [Int.natCast_emod]; exact Int.tmod_eq_emod_of_nonneg (by omega)
      go_wp2_with fail
      go_meet
      exact ⟨rfl, an % len, by first | rfl | simp [hm]⟩
  case rest =>
    obtain ⟨rfl, kn, hkn⟩ := hcut
    subst hkn
    generalize wc = wz at *
    have HLN : Hid (ls.take len = ls) := Lib.hid (by rw [← HLEN.out, List.take_length])
    generalize hB : wz.heap.size = B at *
    have HBE := Lib.hid hB
    clear hB
    have HBZ : Hid (∀ W, Below B wz W → Below w3.heap.size w3 W) := Lib.hid (fun W hW => HB8.out.trans (hW.mono (by rw [← HBE.out]; exact HB8.out.size)))
    go_wp2_with fail
    go_loopw [14, 73] (fun ov iv wr => ∃ (i : Nat) (T : Word), i ≤ len ∧ iv = .int .i64 i ∧ T = joinL (mixF kn 0 (ls.take i)) ∧ T.length ≤ (joinL (ls.take i)).length + 20 * i ∧ TxO B wz ov T wr) (fun _ iv _ => len - (intOf iv).toNat)
    case atStart => exact ⟨0, [], Nat.zero_le _, rfl, rfl, Nat.zero_le _, HT0.out⟩
    case round =>
      obtain ⟨i, T, hi, rfl, hTe, hTl, hT⟩ := hrel
      have HTE := Lib.hid hTe
      have HT := Lib.hid hT
      obtain ⟨po, co, hov⟩ := hT.tx.slice
      subst hov
      have htl := HTOT.out i
      have HLW := Lib.hid hT.tx.low
      clear hTe hT
      by_cases hin : i < len
      · have hil : i < ls.length := by rw [HLEN.out]; exact hin
        obtain ⟨q', c', e1, hcc, hr⟩ := HR8.out.below (show Below wz.heap.size wz wr by rw [HBE.out]; exact HLW.out)
        injection e1 with e11 e12 e13
        subst e11
        clear e12
        obtain ⟨g, o, rfl, hC⟩ := hr.resolve_left (by intro e; have := congrArg List.length e; simp [wcells] at this; rw [this] at hil; simp at hil)
        have cx : wr.cell? ⟨g, o + i, none⟩ = some (.string ⟨(ls.getD i []).toArray⟩) := by
          have h := hC i (by simpa [wcells] using hil)
          rw [h]
          simp [wcells, List.getD, hil]
        have hxl : (ls.getD i []).length ≤ t.length + 1 := HMEM.out _ (by simp only [List.getD, List.getElem?_eq_getElem hil, Option.getD_some]; exact List.getElem_mem hil)
        have HSN := Lib.hid (mix_take (k := kn) hil)
        have HJS : Hid ((joinL (ls.take (i + 1))).length = (joinL (ls.take i)).length + (ls.getD i []).length + 1) := Lib.hid (by rw [joinL_snoc hil]; simp; omega)
        clear hr hC e13
        generalize ls.getD i [] = x at *
        have hss := size_mk x
        have hi0 : (0 : Int) ≤ (i : Int) := by omega
        have hi1 : (i : Int) < (len : Int) := by omega
        by_cases hik : i = kn
        · subst hik
          obtain ⟨TC, hTC⟩ : ∃ T', T' = T ++ joinL [wComment, wBlank] := ⟨_, rfl⟩
          have HXC := Lib.hid hTC
          have hlC : TC.length ≤ T.length + 14 := by rw [hTC, List.length_append]; exact Nat.le_refl _
          clear hTC
          go_wp2_with (at_builtin; refine wpList_txo rfl (.tmp 81) _ rfl _ T (joinL [wComment, wBlank]) TC rfl HT.out _ rfl rfl ?l0 HXC.out ?_)
          case l0 => (have : (joinL [wComment, wBlank]).length = 14 := rfl; omega)
          intro vC wC hTC
          have HTC := Lib.hid hTC
          obtain ⟨pC, cC, hvC⟩ := hTC.tx.slice
          subst hvC
          clear hTC
          obtain ⟨T7, hT7⟩ : ∃ T', T' = TC ++ [9, 32] := ⟨_, rfl⟩
          have HX7 := Lib.hid hT7
          have hl7 : T7.length ≤ TC.length + 2 := by rw [hT7, List.length_append]; exact Nat.le_refl _
          obtain ⟨T8, hT8⟩ : ∃ T', T' = T7 ++ x := ⟨_, rfl⟩
          have HX8 := Lib.hid hT8
          have hl8 : T8.length ≤ T7.length + x.length := by rw [hT8, List.length_append]; exact Nat.le_refl _
          obtain ⟨T9, hT9⟩ : ∃ T', T' = T8 ++ [32, 32, 10] := ⟨_, rfl⟩
          have HX9 := Lib.hid hT9
          have hl9 : T9.length ≤ T8.length + 3 := by rw [hT9, List.length_append]; exact Nat.le_refl _
          clear hT7 hT8 hT9
          go_wp2_with (at_builtin; refine wpList_txo rfl (.tmp 83) _ rfl _ TC [9, 32] T7 rfl HTC.out _ rfl rfl ?l1a HX7.out ?_)
          case l1a => (simp; omega)
          intro v7 w7' hT7
          have HT7 := Lib.hid hT7
          clear hT7
          go_wp2_with (at_builtin; refine wpList_txo rfl (.tmp 84) (.tmp 85) rfl _ T7 x T8 rfl HT7.out _ rfl rfl ?l2a HX8.out ?_)
          case l2a => omega
          intro v8 w8' hT8
          have HT8 := Lib.hid hT8
          clear hT8
          go_wp2_with (at_builtin; refine wpList_txo rfl (.tmp 86) _ rfl _ T8 [32, 32, 10] T9 rfl HT8.out _ rfl rfl ?l3a HX9.out ?_)
          case l3a => (simp; omega)
          intro v9 w9' hT9
          have HT9 := Lib.hid hT9
          obtain ⟨p9, c9, hv9⟩ := hT9.tx.slice
          subst hv9
          clear hT9
          go_wp2_with fail
          go_roundw
          case rel => exact ⟨i + 1, T9, by omega, by go_num, by rw [HX9.out, HX8.out, HX7.out, HXC.out, HTE.out, HSN.out]; simp, by rw [HJS.out]; omega, HT9.out⟩
          case measure => simp [intOf]; omega
        · have hikb : ((i : Int) == (kn : Int)) = false := by rw [beq_eq_false_iff_ne]; omega
          have HIF : Hid ((if i = kn then joinL [wComment, wBlank] else []) = []) := Lib.hid (if_neg hik)
          clear hik
          have HTC := HT
          obtain ⟨T7, hT7⟩ : ∃ T', T' = T ++ [9, 32] := ⟨_, rfl⟩
          have HX7 := Lib.hid hT7
          have hl7 : T7.length ≤ T.length + 2 := by rw [hT7, List.length_append]; exact Nat.le_refl _
          obtain ⟨T8, hT8⟩ : ∃ T', T' = T7 ++ x := ⟨_, rfl⟩
          have HX8 := Lib.hid hT8
          have hl8 : T8.length ≤ T7.length + x.length := by rw [hT8, List.length_append]; exact Nat.le_refl _
          obtain ⟨T9, hT9⟩ : ∃ T', T' = T8 ++ [32, 32, 10] := ⟨_, rfl⟩
          have HX9 := Lib.hid hT9
          have hl9 : T9.length ≤ T8.length + 3 := by rw [hT9, List.length_append]; exact Nat.le_refl _
          clear hT7 hT8 hT9
          go_wp2_with (at_builtin; refine wpList_txo rfl (.tmp 83) _ rfl _ T [9, 32] T7 rfl HT.out _ rfl rfl ?l1a HX7.out ?_)
          case l1a => (simp; omega)
          intro v7 w7' hT7
          have HT7 := Lib.hid hT7
          clear hT7
          go_wp2_with (at_builtin; refine wpList_txo rfl (.tmp 84) (.tmp 85) rfl _ T7 x T8 rfl HT7.out _ rfl rfl ?l2a HX8.out ?_)
          case l2a => omega
          intro v8 w8' hT8
          have HT8 := Lib.hid hT8
          clear hT8
          go_wp2_with (at_builtin; refine wpList_txo rfl (.tmp 86) _ rfl _ T8 [32, 32, 10] T9 rfl HT8.out _ rfl rfl ?l3a HX9.out ?_)
          case l3a => (simp; omega)
          intro v9 w9' hT9
          have HT9 := Lib.hid hT9
          obtain ⟨p9, c9, hv9⟩ := hT9.tx.slice
          subst hv9
          clear hT9
          go_wp2_with fail
          go_roundw
          case rel => exact ⟨i + 1, T9, by omega, by go_num, by rw [HX9.out, HX8.out, HX7.out, HTE.out, HSN.out, HIF.out]; simp, by rw [HJS.out]; omega, HT9.out⟩
          case measure => simp [intOf]; omega
      have hie : i = len := by omega
      have HTF : Hid (T = joinL (mixF kn 0 ls)) := Lib.hid (by rw [HTE.out, hie, HLN.out])
      clear hin
      have htl2 : T.length ≤ 3000000000 := by omega
      have hst := tx_string HT.out.own
      have HPF : Hid (parseF T = (0, 0, S)) := Lib.hid (by rw [HTF.out]; exact HMX2.out kn)
      have HPA := Lib.hid (parse_walk N ⟨T.toArray⟩ wr (HW.out wr (HBZ.out wr HLW.out)).2.1 (by rw [size_mk]; omega))
      simp only [HPF.out] at HPA
      clear htl hTl
      go_wp2_with fail
      refine HPA.out.mono ?_
      rintro e wa ⟨zt, zh, zs, ZV, rfl, hrw, _, hba⟩
      have HRZ := Lib.hid hrw.read
      obtain ⟨s1, f1, rfl, _, _⟩ := hrw.read.tops
      obtain ⟨s2, f2, rfl, _, _⟩ := hrw.read.thrs
      obtain ⟨s3, f3, rfl, _, _⟩ := hrw.read.sch
      have HBA := Lib.hid ((HBZ.out wr HLW.out).trans (hba.mono (HBZ.out wr HLW.out).size))
      have HXA := Lib.hid (heap_alloc_new wa (.cells #[.slice s1 S.tops.length f1, .slice s2 S.thrs.length f2, .slice s3 S.sch.length f3, .int .i64 S.most] 27))
      have HLA : Hid (Below wa.heap.size wa (wa.alloc (.cells #[.slice s1 S.tops.length f1, .slice s2 S.thrs.length f2, .slice s3 S.sch.length f3, .int .i64 S.most] 27))) := Lib.hid ((Below.refl _ _).alloc (Nat.le_refl _) _)
      clear hrw hba HPA hst
      go_upto_region 23 with fail
      generalize wa.alloc (.cells #[.slice s1 S.tops.length f1, .slice s2 S.thrs.length f2, .slice s3 S.sch.length f3, .int .i64 S.most] 27) = wb at *
      have HBB := Lib.hid (HBA.out.trans (HLA.out.mono HBA.out.size))
      generalize hyb : wa.heap.size = yb at *
      have HYBE := Lib.hid hyb
      clear hyb
      obtain ⟨a0, a1, a2, a3⟩ := HKC.out wb HBB.out
      have b0 := (cell_of HXA.out 0).trans rfl
      have b1 := (cell_of HXA.out 1).trans rfl
      have b2 := (cell_of HXA.out 2).trans rfl
      have b3 := (cell_of HXA.out 3).trans rfl
      have HSM := Lib.hid (sameS_walk _ _ _ _ _ _ ZV XV S S wb (HRZ.out.below (by rw [HYBE.out]; exact HLA.out)) (HW.out _ HBB.out).1 (good_small HG.out) (good_small HG.out))
      rw [decide_eq_true (show S = S from rfl)] at HSM
      go_wp2_with fail
      refine HSM.out.mono ?_
      rintro e wd ⟨rfl, hbd⟩
      have HBD := Lib.hid (HW.out wd (HBB.out.trans (hbd.mono HBB.out.size))).2.2.2
      clear a0 a1 a2 a3 b0 b1 b2 b3 hbd HSM
      go_wp2_with fail
      go_ret
      exact ⟨rfl, HBD.out⟩
end Go.Proofs.YtdmhlhoimaeacaaDoor
