/-
  The law ScriptLines (f4). (Printed in part by wip/gen/linesl.py.)
-/
import Derived.Test.YtdmhlhoimaeacaaDoorReadsS
import Derived.Test.YtdmhlhoimaeacaaDoorRefPrint
import Derived.Test.YtdmhlhoimaeacaaDoorOwnS
namespace Go.Proofs.YtdmhlhoimaeacaaDoor
open Go.RowKit Go.Maps PL
set_option linter.unusedVariables false

/-! Plain: lines, put together again. -/
theorem lineOf_len : ∀ t : Word, (lineOf t).1.length ≤ t.length ∧ ((lineOf t).2 ≠ [] → (lineOf t).1.length + 1 + (lineOf t).2.length = t.length)
  | [] => ⟨Nat.le_refl _, fun h => absurd rfl h⟩
  | c :: r => by
    have ih := lineOf_len r
    simp only [lineOf]
    split
    · exact ⟨by simp, fun _ => by simp; omega⟩
    · refine ⟨by simp; exact ih.1, fun h => ?_⟩
      have := ih.2 h
      simp only [List.length_cons]
      omega
theorem joinL_total : ∀ (f : Nat) (t : Word), (joinL (linesF f t)).length ≤ t.length + 1
  | 0, t => by simp [linesF, joinL]
  | f + 1, [] => by simp [linesF, joinL]
  | f + 1, c :: r => by
    have h1 := lineOf_len (c :: r)
    have ih := joinL_total f (lineOf (c :: r)).2
    rw [linesF, joinL_cons, List.length_append, List.length_cons]
    by_cases h2 : (lineOf (c :: r)).2 = []
    · rw [h2, linesF_nil]
      have := h1.1
      simp [joinL]
      simpa using this
    · have := h1.2 h2
      omega
theorem joinL_take (ls : List Word) (i : Nat) : (joinL (ls.take i)).length ≤ (joinL ls).length := by
  have h : joinL ls = joinL (ls.take i) ++ joinL (ls.drop i) := by rw [← joinL_app, List.take_append_drop]
  rw [h, List.length_append]
  omega
theorem joinL_mem {ls : List Word} {l : Word} (h : l ∈ ls) : l.length ≤ (joinL ls).length := by
  induction ls with
  | nil => cases h
  | cons x r ih =>
    rw [joinL_cons, List.length_append, List.length_cons]
    rcases List.mem_cons.1 h with rfl | h
    · omega
    · have := ih h
      omega
theorem joinL_snoc {ls : List Word} {i : Nat} (h : i < ls.length) : joinL (ls.take (i + 1)) = joinL (ls.take i) ++ ls.getD i [] ++ [10] := by
  rw [take_snoc h [], joinL_app]
  simp [joinL]

set_option maxRecDepth 100000 in
set_option maxHeartbeats 8000000 in
theorem lines_law (N : Nat) (t : Word) (w : World) (hE : Env N w) (hs : t.length ≤ 1000000000) :
    Calls Tryd.prog 4 #[.string ⟨t.toArray⟩] w fun e w' => e = .returned (.bool true) ∧ Below w.heap.size w w' := by
  have HE := Lib.hid hE
  have HR := Lib.hid (reads_walkS N w hE)
  have HP := Lib.hid (fun W hW => parse_walk N ⟨t.toArray⟩ W hW (by rw [size_mk]; omega))
  simp only at HP
  have hsz := size_mk t
  have HOR := Lib.hid (parse_good_or t)
  have HFI := Lib.hid (fun h => parse_first (t := t) h)
  have HLI := Lib.hid (fun W => refLines_walk t W (by omega))
  have HTOT : Hid (∀ i, (joinL ((linesA t).take i)).length ≤ t.length + 1) := Lib.hid (fun i => Nat.le_trans (joinL_take _ i) (joinL_total _ t))
  have HMEM : Hid (∀ l ∈ linesA t, l.length ≤ t.length + 1) := Lib.hid (fun l hl => Nat.le_trans (joinL_mem hl) (joinL_total _ t))
  have hLA : linesF t.length t = linesA t := rfl
  rw [hLA] at HOR HFI
  clear hE hLA
  generalize parseF t = R at *
  generalize hls : linesA t = ls at *
  clear hls
  obtain ⟨er, n, S⟩ := R
  simp only at *
  go_enter Tryd.func4, Tryd.ntmps4
  go_wp2_with fail
  refine HR.out.mono ?_
  rintro e w1 ⟨rfl, hb1⟩
  have HB1 := Lib.hid hb1
  have HE1 := Lib.hid (HE.out.up hb1)
  clear hb1 HR
  go_wp2_with fail
  refine (HP.out _ HE1.out).mono ?_
  rintro e w2 ⟨xt, xh, xs, XV, rfl, hrw, _, hb2⟩
  obtain ⟨p1, c1, rfl, _, _⟩ := hrw.read.tops
  obtain ⟨p2, c2, rfl, _, _⟩ := hrw.read.thrs
  obtain ⟨p3, c3, rfl, _, _⟩ := hrw.read.sch
  have HB2 := Lib.hid (HB1.out.trans (hb2.mono HB1.out.size))
  have HUP2 : Hid (∀ o, Below w.heap.size w (w2.alloc o)) := Lib.hid (fun o => HB2.out.alloc HB2.out.size o)
  clear hrw hb2
  by_cases h0 : er = 0
  · have hb0 : (er == 0) = true := by simpa using h0
    have HN0 : Hid (n = 0) := Lib.hid (by rcases HOR.out with ⟨_, _, q⟩ | ⟨q, _⟩; exact q; exact absurd h0 q)
    rw [HN0.out]
    clear h0
    go_wp2_with fail
    go_ret
    exact ⟨rfl, HUP2.out _⟩
  have hb0 : (er == 0) = false := by simpa using h0
  obtain ⟨f1, f2, f3, f4, l, f5, f6⟩ := HFI.out h0
  have HF3 := Lib.hid f3
  have HF4 := Lib.hid f4
  have HF5 := Lib.hid f5
  have HF6 := Lib.hid f6
  clear f3 f4 f5 f6 HFI HOR h0
  go_upto_region 5 with fail
  have HX0 := Lib.hid (HUP2.out (.cells #[.slice p1 S.tops.length c1, .slice p2 S.thrs.length c2, .slice p3 S.sch.length c3, .int .i64 S.most] 27))
  generalize w2.alloc (.cells #[.slice p1 S.tops.length c1, .slice p2 S.thrs.length c2, .slice p3 S.sch.length c3, .int .i64 S.most] 27) = w3 at *
  clear HUP2
  have HX : Hid (Below w.heap.size w w3) := HX0
  go_wp2_with fail
  refine (HLI.out w3).mono ?_
  rintro e w4 ⟨p, c, rfl, hrow, hb4, hlc, hln2⟩
  have HB4 := Lib.hid (HX.out.trans (hb4.mono HX.out.size))
  have hR := RowAt.of_own hrow
  clear hrow hb4 HLI HX0
  obtain ⟨q, c', e1, hcc, hr⟩ := hR
  injection e1 with e11 e12 e13
  subst e11 e13
  clear e12
  obtain ⟨g, o, rfl, hC⟩ := hr.resolve_left (by intro e; have := congrArg List.length e; simp [wcells] at this; rw [this] at f2; simp at f2; omega)
  have HC : Hid (∀ W, Below w4.heap.size w4 W → ∀ i, i < ls.length → W.cell? ⟨g, o + i, none⟩ = some (.string ⟨(ls.getD i []).toArray⟩)) := Lib.hid (fun W hW i hi => by
    have h := hC i (by simpa [wcells] using hi)
    have h2 : (wcells ls)[i]? = some (.string ⟨(ls.getD i []).toArray⟩) := by simp [wcells, List.getD, hi]
    rw [h2] at h
    exact (hW.cell (World.block_lt_of_cell? w4 _ h)).trans h)
  clear hr hC
  have HE4 : Hid (∀ W, Below w4.heap.size w4 W → Env N W) := Lib.hid (fun W hW => HE.out.up (HB4.out.trans (hW.mono HB4.out.size)))
  have HBW : Hid (∀ W, Below w4.heap.size w4 W → Below w.heap.size w W) := Lib.hid (fun W hW => HB4.out.trans (hW.mono HB4.out.size))
  generalize hlen : ls.length = len at *
  have HLEN := Lib.hid hlen
  clear hlen
  obtain ⟨k, hk⟩ : ∃ k, n = k + 1 := ⟨n - 1, by omega⟩
  subst hk
  simp only [Nat.add_sub_cancel] at HF3 HF4 HF5 HF6
  have hdd : (decide ((k : Int) + 1 < 1) || decide ((len : Int) < (k : Int) + 1)) = false := by rw [decide_eq_false (show ¬ (k : Int) + 1 < 1 by omega), decide_eq_false (show ¬ (len : Int) < (k : Int) + 1 by omega)]; rfl
  have HT0 : Hid (TxO w4.heap.size w4 (.slice none 0 0) [] w4) := Lib.hid ⟨⟨.inl ⟨rfl, .inl ⟨rfl, rfl⟩⟩, Below.refl _ _, Nat.le_refl _⟩, ⟨rfl, .inl ⟨rfl, rfl⟩⟩⟩
  obtain ⟨i5, hi5, z0, z1, z2⟩ := info_parts info5
  generalize hB : w4.heap.size = B at *
  have HBE := Lib.hid hB
  clear hB
  go_upto_region 9 with fail
  clear hdd
  have hk0 : (0 : Int) ≤ (k : Int) := by omega
  have hk1 : (k : Int) ≤ (c : Int) := by omega
  go_wp2_with fail
  go_loopw [7, 43] (fun ov iv wr => ∃ (i : Nat) (T : Word), i ≤ k ∧ iv = .int .i64 i ∧ T = joinL (ls.take i) ∧ TxO B w4 ov T wr) (fun _ iv _ => k - (intOf iv).toNat)
  case atStart => exact ⟨0, [], Nat.zero_le _, rfl, rfl, HT0.out⟩
  case round =>
    obtain ⟨i, T, hi, rfl, hTe, hT⟩ := hrel
    have HTE := Lib.hid hTe
    have HT := Lib.hid hT
    obtain ⟨po, co, hov⟩ := hT.tx.slice
    subst hov
    have htl : T.length ≤ t.length + 1 := by rw [hTe]; exact HTOT.out i
    have HLW := Lib.hid hT.tx.low
    clear hTe hT
    by_cases hik : i < k
    · have hil : i < ls.length := by rw [HLEN.out]; omega
      have cx := HC.out wr HLW.out i (by rw [HLEN.out] at hil; exact hil)
      have hxl : (ls.getD i []).length ≤ t.length + 1 := HMEM.out _ (by simp only [List.getD, List.getElem?_eq_getElem hil, Option.getD_some]; exact List.getElem_mem hil)
      have HSN := Lib.hid (joinL_snoc hil)
      generalize ls.getD i [] = x at *
      have hss := size_mk x
      obtain ⟨T5, hT5⟩ : ∃ T', T' = T ++ x := ⟨_, rfl⟩
      have HX5 := Lib.hid hT5
      have hl5 : T5.length ≤ T.length + x.length := by rw [hT5, List.length_append]; exact Nat.le_refl _
      clear hT5
      have hi0 : (0 : Int) ≤ (i : Int) := by omega
      have hi1 : (i : Int) < (k : Int) := by omega
      go_wp2_with (at_builtin; refine wpList_txo rfl (.tmp 47) (.tmp 48) rfl _ T x T5 rfl HT.out _ rfl rfl ?l1 HX5.out ?_)
      case l1 => omega
      intro v5 w5 hT5
      have HT5 := Lib.hid hT5
      obtain ⟨p5, c5, hv5⟩ := hT5.tx.slice
      subst hv5
      clear hT5
      obtain ⟨T9, hT9e⟩ : ∃ T', T' = T5 ++ [10] := ⟨_, rfl⟩
      have HX9 := Lib.hid hT9e
      clear hT9e
      go_wp2_with (at_builtin; refine wpList_append_row rfl (.tmp 49) (.tmp 50) 42 rfl B 5 i5 _ 1 1 Tryd.underlying42 hi5 z0 z1 (by decide) z2 rfl _ T5.length (Lib.byteCells T5) rfl (HT5.out.own.alloc _) 1 (Lib.byteCells [10]) (src_nl _) ?l2 ?b2 ?n2 ?_)
      case l2 => (unfold maxLen; omega)
      case b2 => omega
      case n2 => (have := HT5.out.tx.nw; simp; omega)
      intro v9 w9 hap
      have HAP := Lib.hid (HT5.out.line HX9.out hap)
      clear hap
      obtain ⟨p9, c9, hv9⟩ := HAP.out.tx.slice
      subst hv9
      go_wp2_with fail
      go_roundw
      case rel => exact ⟨i + 1, T9, by omega, by go_num, by rw [HX9.out, HX5.out, HTE.out, HSN.out], HAP.out⟩
      case measure => simp [intOf]; omega
    have hie : i = k := by omega
    subst hie
    have hst := tx_string HT.out.own
    have HPA := Lib.hid (parse_walk N ⟨T.toArray⟩ wr (HE4.out wr HLW.out) (by rw [size_mk]; omega))
    simp only at HPA
    rw [← HTE.out] at HF3 HF4 HF6
    have HR1 : Hid (parseF T = (0, 0, (parseF T).2.2)) := Lib.hid (by
      have h3 := HF3.out
      have h4 := HF4.out
      generalize parseF T = y at *
      obtain ⟨y1, y2, y3⟩ := y
      simp only at h3 h4
      subst h3 h4
      rfl)
    rw [HR1.out] at HPA
    generalize (parseF T).2.2 = S1 at *
    go_wp2_with fail
    refine HPA.out.mono ?_
    rintro e w5 ⟨xt, xh, xs, XV1, rfl, hrw, _, hb5⟩
    obtain ⟨r1, d1, rfl, _, _⟩ := hrw.read.tops
    obtain ⟨r2, d2, rfl, _, _⟩ := hrw.read.thrs
    obtain ⟨r3, d3, rfl, _, _⟩ := hrw.read.sch
    have HT5 := Lib.hid (HT.out.up hb5)
    clear hrw hb5 hst
    go_upto_region 16 with fail
    have HT6 := Lib.hid (HT5.out.up ((Below.refl _ _).alloc (Nat.le_refl _) (.cells #[.slice r1 S1.tops.length d1, .slice r2 S1.thrs.length d2, .slice r3 S1.sch.length d3, .int .i64 S1.most] 27)))
    generalize w5.alloc (.cells #[.slice r1 S1.tops.length d1, .slice r2 S1.thrs.length d2, .slice r3 S1.sch.length d3, .int .i64 S1.most] 27) = w6 at *
    have hil : i < ls.length := by rw [HLEN.out]; omega
    have HXL : Hid (ls.getD i [] = l) := Lib.hid (by simp only [List.getD, HF5.out, Option.getD_some])
    have hxl : l.length ≤ t.length + 1 := by rw [← HXL.out]; exact HMEM.out _ (by simp only [List.getD, List.getElem?_eq_getElem hil, Option.getD_some]; exact List.getElem_mem hil)
    rw [HLEN.out] at hil
    have HKC : Hid (∀ W, Below w6.heap.size w6 W → (convert 42 9 (.slice po T.length co)).run Tryd.prog W = .ok (.string ⟨T.toArray⟩) W ∧ W.cell? ⟨g, o + i, none⟩ = some (.string ⟨l.toArray⟩)) := Lib.hid (fun W hW => by
      have h1 := HT6.out.up hW
      refine ⟨tx_string h1.own, ?_⟩
      rw [← HXL.out]
      exact HC.out W h1.tx.low i hil)
    have HPB : Hid (∀ W, Below w6.heap.size w6 W → ∀ s : ByteArray, s = ⟨(T ++ l).toArray⟩ → Calls Tryd.prog 11 #[.string s] W fun e w' => ∃ p1 c1 p2 c2 p3 c3, e = .returned (.tuple #[.agg #[.slice p1 0 c1, .slice p2 0 c2, .slice p3 0 c3, .int .i64 0], .int .i64 ((i : Int) + 1), .int .i64 er]) ∧ Below W.heap.size W w') := Lib.hid (fun W hW s hs' => by
      subst hs'
      have h := parse_walk N ⟨(T ++ l).toArray⟩ W (HE4.out W (HT6.out.up hW).tx.low) (by rw [size_mk, List.length_append]; omega)
      simp only [HF6.out] at h
      refine h.mono ?_
      rintro e w' ⟨tv, hv, sv, V', rfl, hrw, _, hb⟩
      obtain ⟨p1, c1, rfl, _, _⟩ := hrw.read.tops
      obtain ⟨p2, c2, rfl, _, _⟩ := hrw.read.thrs
      obtain ⟨p3, c3, rfl, _, _⟩ := hrw.read.sch
      exact ⟨p1, c1, p2, c2, p3, c3, by simp [Scr.empty], hb⟩)
    have HLB : Hid (∀ W, Below w6.heap.size w6 W → Below w.heap.size w W) := Lib.hid (fun W hW => HBW.out W (HT6.out.up hW).tx.low)
    have hi0 : (0 : Int) ≤ (i : Int) := by omega
    have hi1 : (i : Int) < (len : Int) := by omega
    have hwr : IntKind.i64.wrap (i : Int) = (i : Int) := by rw [IntKind.wrap_i64]; omega
    have hsz1 := size_mk T
    have hsz2 := size_mk l
    have hq1 : ¬ 9223372036854775807 < T.length + l.length := by omega
    have HSTR : Hid ((({ data := T.toArray } : ByteArray) ++ { data := l.toArray }) = ⟨(T ++ l).toArray⟩) := Lib.hid (by
      apply ByteArray.ext
      apply Array.toList_inj.1
      simp)
    go_cut [13, 14, 15, 60, 61, 62, 63, 64, 65, 66, 67, 68, 69, 70, 71, 72] (fun _ a b _ _ _ _ _ _ _ _ _ _ _ _ _ wx => a = .int .i64 ((i : Int) + 1) ∧ b = .int .i64 er ∧ Below w.heap.size w wx)
    case first =>
      have hbw : Below w6.heap.size w6 w6.drew := (Below.refl _ _).drew
      obtain ⟨k0, k1⟩ := HKC.out _ hbw
      refine wp_region_held_drew (S := fun w' => (convert 42 9 (.slice po T.length co)).run Tryd.prog w' = .ok (.string ⟨T.toArray⟩) w' ∧ w'.cell? ⟨g, o + i, none⟩ = some (.string ⟨l.toArray⟩)) (by kernel_rfl) ⟨k0, k1⟩ (fun hHeld => ?_)
      refine takeH (i := 0) (v := ?v1) rfl (by kernel_rfl) (by kernel_rfl) (by kernel_rfl) (fun _ _ _ h => h) (by rfl) (by assumption) ?hy1 ?rest1
      case hy1 => (intro w hSw; (try dsimp only at hSw); first | (go_simp; done) | (go_simp; with_reducible rfl))
      try simp only [Act.put, List.setIfInBounds_toArray, List.set_cons_zero, List.set_cons_succ]
      refine takeH (i := 1) (v := ?v2) rfl (by kernel_rfl) (by kernel_rfl) (by kernel_rfl) (fun _ _ _ h => h) (by rfl) (by assumption) ?hy2 ?rest2
      case hy2 => (intro w hSw; (try dsimp only at hSw); first | (go_simp; done) | (go_simp; with_reducible rfl))
      try simp only [Act.put, List.setIfInBounds_toArray, List.set_cons_zero, List.set_cons_succ]
      refine takeH (i := 2) (v := ?v3) rfl (by kernel_rfl) (by kernel_rfl) (by kernel_rfl) (fun _ _ _ h => h) (by rfl) (by assumption) ?hy3 ?rest3
      case hy3 => (intro w hSw; (try dsimp only at hSw); first | (go_simp; done) | (go_simp; with_reducible rfl))
      try simp only [Act.put, List.setIfInBounds_toArray, List.set_cons_zero, List.set_cons_succ]
      refine takeH (i := 3) (v := ?v4) rfl (by kernel_rfl) (by kernel_rfl) (by kernel_rfl) (fun _ _ _ h => h) (by rfl) (by assumption) ?hy4 ?rest4
      case hy4 => (intro w hSw; (try dsimp only at hSw); first | (go_simp; done) | (go_simp; with_reducible rfl))
      try simp only [Act.put, List.setIfInBounds_toArray, List.set_cons_zero, List.set_cons_succ]
      refine takeH (i := 4) (v := ?v5) rfl (by kernel_rfl) (by kernel_rfl) (by kernel_rfl) (fun _ _ _ h => h) (by rfl) (by assumption) ?hy5 ?rest5
      case hy5 => (intro w hSw; (try dsimp only at hSw); first | (go_simp; done) | (go_simp; with_reducible rfl))
      try simp only [Act.put, List.setIfInBounds_toArray, List.set_cons_zero, List.set_cons_succ]
      refine takeH (i := 5) (v := ?v6) rfl (by kernel_rfl) (by kernel_rfl) (by kernel_rfl) (fun _ _ _ h => h) (by rfl) (by assumption) ?hy6 ?rest6
      case hy6 => (intro w hSw; (try dsimp only at hSw); first | (go_simp; done) | (go_simp; with_reducible rfl))
      try simp only [Act.put, List.setIfInBounds_toArray, List.set_cons_zero, List.set_cons_succ]
      refine takeH (i := 6) (v := ?v7) rfl (by kernel_rfl) (by kernel_rfl) (by kernel_rfl) (fun _ _ _ h => h) (by rfl) (by assumption) ?hy7 ?rest7
      case hy7 => (intro w hSw; (try dsimp only at hSw); first | (go_simp; done) | (go_simp; with_reducible rfl))
      try simp only [Act.put, List.setIfInBounds_toArray, List.set_cons_zero, List.set_cons_succ]
      refine takeH (i := 7) (v := ?v8) rfl (by kernel_rfl) (by kernel_rfl) (by kernel_rfl) (fun _ _ _ h => h) (by rfl) (by assumption) ?hy8 ?rest8
      case hy8 => (intro w hSw; (try dsimp only at hSw); first | (go_simp; done) | (go_simp; with_reducible rfl))
      try simp only [Act.put, List.setIfInBounds_toArray, List.set_cons_zero, List.set_cons_succ]
      refine wpAnyH_ready (rs := [8, 13]) (by kernel_rfl) (by simp) (consH rfl (fun K hK => ?_) (consH rfl (fun K hK => ?_) AllReadyH.nil))
      · go_simp
        go_at_call 11
        refine (HPB.out _ hbw _ HSTR.out).mono ?_
        rintro e w7 ⟨x1, y1, x2, y2, x3, y3, rfl, hb7⟩
        have hbw := hbw.trans (hb7.mono hbw.size)
        obtain ⟨k0, k1⟩ := HKC.out _ hbw
        refine hK.out _ _ ⟨k0, k1⟩ (fun hHeld => ?_)
        clear hK K hb7
        try simp only [Act.put, List.setIfInBounds_toArray, List.set_cons_zero, List.set_cons_succ]
        refine takeH (i := 9) (v := ?v9) rfl (by kernel_rfl) (by kernel_rfl) (by kernel_rfl) (fun _ _ _ h => h) (by rfl) (by assumption) ?hy9 ?rest9
        case hy9 => (intro w hSw; (try dsimp only at hSw); first | (go_simp; done) | (go_simp; with_reducible rfl))
        try simp only [Act.put, List.setIfInBounds_toArray, List.set_cons_zero, List.set_cons_succ]
        refine takeH (i := 10) (v := ?v10) rfl (by kernel_rfl) (by kernel_rfl) (by kernel_rfl) (fun _ _ _ h => h) (by rfl) (by assumption) ?hy10 ?rest10
        case hy10 => (intro w hSw; (try dsimp only at hSw); first | (go_simp; done) | (go_simp; with_reducible rfl))
        try simp only [Act.put, List.setIfInBounds_toArray, List.set_cons_zero, List.set_cons_succ]
        refine takeH (i := 11) (v := ?v11) rfl (by kernel_rfl) (by kernel_rfl) (by kernel_rfl) (fun _ _ _ h => h) (by rfl) (by assumption) ?hy11 ?rest11
        case hy11 => (intro w hSw; (try dsimp only at hSw); first | (go_simp; done) | (go_simp; with_reducible rfl))
        try simp only [Act.put, List.setIfInBounds_toArray, List.set_cons_zero, List.set_cons_succ]
        refine takeH (i := 12) (v := ?v12) rfl (by kernel_rfl) (by kernel_rfl) (by kernel_rfl) (fun _ _ _ h => h) (by rfl) (by assumption) ?hy12 ?rest12
        case hy12 => (intro w hSw; (try dsimp only at hSw); first | (go_simp; done) | (go_simp; with_reducible rfl))
        try simp only [Act.put, List.setIfInBounds_toArray, List.set_cons_zero, List.set_cons_succ]
        have hbw7 := hbw
        refine wpAnyH_ready (rs := [13]) (by kernel_rfl) (by simp) (consH rfl (fun K hK => ?_) AllReadyH.nil)
        go_simp
        have hbw := hbw7.alloc hbw7.size (.cells #[.slice none 0 0, .slice none 0 0, .slice none 0 0, .int .i64 0] 27)
        obtain ⟨k0, k1⟩ := HKC.out _ hbw
        refine hK.out _ _ ⟨k0, k1⟩ (fun hHeld => ?_)
        clear hK K
        try simp only [Act.put, List.setIfInBounds_toArray, List.set_cons_zero, List.set_cons_succ]
        refine wpAnyH_ready (rs := [14]) (by kernel_rfl) (by simp) (consH rfl (fun K hK => ?_) AllReadyH.nil)
        go_simp
        have hbw := hbw7.alloc hbw7.size (.cells #[.slice x1 0 y1, .slice x2 0 y2, .slice x3 0 y3, .int .i64 0] 27)
        obtain ⟨k0, k1⟩ := HKC.out _ hbw
        refine hK.out _ _ ⟨k0, k1⟩ (fun hHeld => ?_)
        clear hK K
        try simp only [Act.put, List.setIfInBounds_toArray, List.set_cons_zero, List.set_cons_succ]
        refine takeH (i := 15) (v := ?v13) rfl (by kernel_rfl) (by kernel_rfl) (by kernel_rfl) (fun _ _ _ h => h) (by rfl) (by assumption) ?hy13 ?rest13
        case hy13 => (intro w hSw; (try dsimp only at hSw); first | (go_simp; done) | (go_simp; with_reducible rfl))
        try simp only [Act.put, List.setIfInBounds_toArray, List.set_cons_zero, List.set_cons_succ]
        refine takeH (i := 16) (v := ?v14) rfl (by kernel_rfl) (by kernel_rfl) (by kernel_rfl) (fun _ _ _ h => h) (by rfl) (by assumption) ?hy14 ?rest14
        case hy14 => (intro w hSw; (try dsimp only at hSw); first | (go_simp; done) | (go_simp; with_reducible rfl))
        try simp only [Act.put, List.setIfInBounds_toArray, List.set_cons_zero, List.set_cons_succ]
        refine wpAnyH_done (by kernel_rfl) ?_ _
        go_wp2_with fail
        go_meet
        exact ⟨rfl, rfl, HLB.out _ hbw⟩
      · go_simp
        have hnb := heap_alloc_new w6.drew (.cells #[.slice none 0 0, .slice none 0 0, .slice none 0 0, .int .i64 0] 27)
        have hns : (w6.drew.alloc (.cells #[.slice none 0 0, .slice none 0 0, .slice none 0 0, .int .i64 0] 27)).heap.size = w6.heap.size + 1 := by simp
        have hbw := hbw.alloc hbw.size (.cells #[.slice none 0 0, .slice none 0 0, .slice none 0 0, .int .i64 0] 27)
        obtain ⟨k0, k1⟩ := HKC.out _ hbw
        refine hK.out _ _ ⟨k0, k1⟩ (fun hHeld => ?_)
        clear hK K
        try simp only [Act.put, List.setIfInBounds_toArray, List.set_cons_zero, List.set_cons_succ]
        refine wpAnyH_ready (rs := [8]) (by kernel_rfl) (by simp) (consH rfl (fun K hK => ?_) AllReadyH.nil)
        go_simp
        go_at_call 11
        refine (HPB.out _ hbw _ HSTR.out).mono ?_
        rintro e w7 ⟨x1, y1, x2, y2, x3, y3, rfl, hb7⟩
        have hbw := hbw.trans (hb7.mono hbw.size)
        obtain ⟨k0, k1⟩ := HKC.out _ hbw
        refine hK.out _ _ ⟨k0, k1⟩ (fun hHeld => ?_)
        have hnb7 := (hb7.block w6.heap.size (by rw [hns]; omega)).trans hnb
        clear hK K hb7 hnb hns
        try simp only [Act.put, List.setIfInBounds_toArray, List.set_cons_zero, List.set_cons_succ]
        refine takeH (i := 9) (v := ?v15) rfl (by kernel_rfl) (by kernel_rfl) (by kernel_rfl) (fun _ _ _ h => h) (by rfl) (by assumption) ?hy15 ?rest15
        case hy15 => (intro w hSw; (try dsimp only at hSw); first | (go_simp; done) | (go_simp; with_reducible rfl))
        try simp only [Act.put, List.setIfInBounds_toArray, List.set_cons_zero, List.set_cons_succ]
        refine takeH (i := 10) (v := ?v16) rfl (by kernel_rfl) (by kernel_rfl) (by kernel_rfl) (fun _ _ _ h => h) (by rfl) (by assumption) ?hy16 ?rest16
        case hy16 => (intro w hSw; (try dsimp only at hSw); first | (go_simp; done) | (go_simp; with_reducible rfl))
        try simp only [Act.put, List.setIfInBounds_toArray, List.set_cons_zero, List.set_cons_succ]
        refine takeH (i := 11) (v := ?v17) rfl (by kernel_rfl) (by kernel_rfl) (by kernel_rfl) (fun _ _ _ h => h) (by rfl) (by assumption) ?hy17 ?rest17
        case hy17 => (intro w hSw; (try dsimp only at hSw); first | (go_simp; done) | (go_simp; with_reducible rfl))
        try simp only [Act.put, List.setIfInBounds_toArray, List.set_cons_zero, List.set_cons_succ]
        refine takeH (i := 12) (v := ?v18) rfl (by kernel_rfl) (by kernel_rfl) (by kernel_rfl) (fun _ _ _ h => h) (by rfl) (by assumption) ?hy18 ?rest18
        case hy18 => (intro w hSw; (try dsimp only at hSw); first | (go_simp; done) | (go_simp; with_reducible rfl))
        try simp only [Act.put, List.setIfInBounds_toArray, List.set_cons_zero, List.set_cons_succ]
        have n0 := (cell_of hnb7 0).trans rfl
        have n1 := (cell_of hnb7 1).trans rfl
        have n2 := (cell_of hnb7 2).trans rfl
        have n3 := (cell_of hnb7 3).trans rfl
        have f0 := free_of hnb7 0
        have f1 := free_of hnb7 1
        have f2 := free_of hnb7 2
        have f3 := free_of hnb7 3
        refine wpAnyH_ready (rs := [14]) (by kernel_rfl) (by simp) (consH rfl (fun K hK => ?_) AllReadyH.nil)
        go_simp
        have hq6 : w6.heap.size ≤ w6.heap.size := Nat.le_refl _
        have hbw := (((hbw.setCell (p := ⟨w6.heap.size, 0, none⟩) hq6 (.slice x1 0 y1)).setCell (p := ⟨w6.heap.size, 1, none⟩) hq6 (.slice x2 0 y2)).setCell (p := ⟨w6.heap.size, 2, none⟩) hq6 (.slice x3 0 y3)).setCell (p := ⟨w6.heap.size, 3, none⟩) hq6 (.int .i64 0)
        obtain ⟨k0, k1⟩ := HKC.out _ hbw
        refine hK.out _ _ ⟨k0, k1⟩ (fun hHeld => ?_)
        clear hK K
        try simp only [Act.put, List.setIfInBounds_toArray, List.set_cons_zero, List.set_cons_succ]
        refine takeH (i := 15) (v := ?v19) rfl (by kernel_rfl) (by kernel_rfl) (by kernel_rfl) (fun _ _ _ h => h) (by rfl) (by assumption) ?hy19 ?rest19
        case hy19 => (intro w hSw; (try dsimp only at hSw); first | (go_simp; done) | (go_simp; with_reducible rfl))
        try simp only [Act.put, List.setIfInBounds_toArray, List.set_cons_zero, List.set_cons_succ]
        refine takeH (i := 16) (v := ?v20) rfl (by kernel_rfl) (by kernel_rfl) (by kernel_rfl) (fun _ _ _ h => h) (by rfl) (by assumption) ?hy20 ?rest20
        case hy20 => (intro w hSw; (try dsimp only at hSw); first | (go_simp; done) | (go_simp; with_reducible rfl))
        try simp only [Act.put, List.setIfInBounds_toArray, List.set_cons_zero, List.set_cons_succ]
        refine wpAnyH_done (by kernel_rfl) ?_ _
        go_wp2_with fail
        go_meet
        exact ⟨rfl, rfl, HLB.out _ hbw⟩
    case rest =>
      obtain ⟨ha, hb, hlow⟩ := hcut
      subst ha hb
      have HLO := Lib.hid hlow
      clear hlow
      go_wp2_with fail
      go_ret
      exact ⟨rfl, HLO.out⟩
end Go.Proofs.YtdmhlhoimaeacaaDoor
