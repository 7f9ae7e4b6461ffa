/-
  The law ScriptParses (f3).
-/
import Derived.Test.YtdmhlhoimaeacaaDoorReadsS
import Derived.Test.YtdmhlhoimaeacaaDoorS7
import Derived.Test.YtdmhlhoimaeacaaDoorS5
import Derived.Test.YtdmhlhoimaeacaaDoorRefSame
import Derived.Test.YtdmhlhoimaeacaaDoorOwnS
namespace Go.Proofs.YtdmhlhoimaeacaaDoor
open Go.RowKit Go.Maps PL
set_option linter.unusedVariables false

theorem ba_len (s : ByteArray) : s.data.toList.length = s.size := by rw [Array.length_toList]; rfl
set_option maxRecDepth 100000 in
set_option maxHeartbeats 8000000 in
theorem parses_law (N : Nat) (s : ByteArray) (w : World) (hE : Env N w) (hs : s.size ≤ 3000000000) :
    Calls Tryd.prog 3 #[.string s] w fun e w' => e = .returned (.bool true) ∧ Below w.heap.size w w' := by
  have HE := Lib.hid hE
  have HR := Lib.hid (reads_walkS N w hE)
  clear hE
  go_enter Tryd.func3, Tryd.ntmps3
  go_wp2_with fail
  refine HR.out.mono ?_
  rintro e w1 ⟨rfl, hb1⟩
  have HB1 := Lib.hid hb1
  clear hb1 HR
  go_upto_region 3 with fail
  obtain ⟨mn, hmn⟩ : ∃ mn : Nat, mn = min s.size 100 := ⟨_, rfl⟩
  have hm1 : mn ≤ 100 := by rw [hmn]; exact Nat.min_le_right _ _
  have hm2 : mn ≤ s.size := by rw [hmn]; exact Nat.min_le_left _ _
  have HMN : Hid (min (s.size : Int) 100 = (mn : Int)) := Lib.hid (by rw [hmn]; omega)
  clear hmn
  go_wp2_with fail
  have HE1 := Lib.hid (HE.out.up HB1.out)
  clear HE
  go_loopw [17] (fun iv wr => ∃ i : Nat, i ≤ mn + 1 ∧ iv = .int .i64 i ∧ Below w1.heap.size w1 wr) (fun iv _ => mn + 1 - (intOf iv).toNat)
  case atStart => exact ⟨0, Nat.zero_le _, rfl, Below.refl _ _⟩
  case round =>
    obtain ⟨i, hi, rfl, hlow⟩ := hrel
    have HLOW := Lib.hid hlow
    have HEr := Lib.hid (HE1.out.up hlow)
    clear hlow
    by_cases hin : i < mn + 1
    · have hd : decide ((i : Int) < min (s.size : Int) 100 + 1) = true := decide_eq_true (by rw [HMN.out]; omega)
      have hss : (s.extract 0 i).size ≤ 3000000000 := by rw [ByteArray.size_extract]; omega
      have HSS := Lib.hid hss
      clear hss
      go_upto_if 27 with fail
      generalize s.extract 0 i = t0 at *
      go_cut [4, 27] (fun tv _ wx => wx = wr ∧ ∃ t : Word, tv = .string ⟨t.toArray⟩ ∧ t.length ≤ 3000000000)
      case first =>
        by_cases hl : i = mn
        · have hb : ((i : Int) == min (s.size : Int) 100) = true := by rw [HMN.out, hl]; simp
          go_wp2_with fail
          go_meet
          exact ⟨rfl, s.data.toList, by simp, by rw [ba_len]; exact hs⟩
        · have hb : ((i : Int) == min (s.size : Int) 100) = false := by rw [HMN.out, beq_eq_false_iff_ne]; omega
          go_wp2_with fail
          go_meet
          exact ⟨rfl, t0.data.toList, by simp, by rw [ba_len]; exact HSS.out⟩
      case rest =>
        obtain ⟨rfl, t, htv, htl⟩ := hcut
        subst htv
        clear hd HSS
        have HP := Lib.hid (parse_walk N ⟨t.toArray⟩ wc HEr.out (by rw [size_mk]; omega))
        have HPR := Lib.hid (fun W => refParse_walk ⟨t.toArray⟩ W (by rw [size_mk]; exact htl))
        have hgood := parse_good' t
        have HG := Lib.hid hgood
        simp only at HP HPR
        generalize parseF t = R at *
        clear hgood
        go_wp2_with fail
        refine HP.out.mono ?_
        rintro e w2 ⟨tv, hv, sv, V, rfl, hrw, _, hb2⟩
        have HSA := Lib.hid hrw.read
        obtain ⟨p1, c1, rfl, _, _⟩ := hrw.read.tops
        obtain ⟨p2, c2, rfl, _, _⟩ := hrw.read.thrs
        obtain ⟨p3, c3, rfl, _, _⟩ := hrw.read.sch
        have HB2 := Lib.hid hb2
        have HX1 := Lib.hid (heap_alloc_new w2 (.cells #[.slice p1 R.2.2.tops.length c1, .slice p2 R.2.2.thrs.length c2, .slice p3 R.2.2.sch.length c3, .int .i64 R.2.2.most] 27))
        have HSZ1 : Hid ((w2.alloc (.cells #[.slice p1 R.2.2.tops.length c1, .slice p2 R.2.2.thrs.length c2, .slice p3 R.2.2.sch.length c3, .int .i64 R.2.2.most] 27)).heap.size = w2.heap.size + 1) := Lib.hid (by simp)
        have HBA : Hid (Below w2.heap.size w2 (w2.alloc (.cells #[.slice p1 R.2.2.tops.length c1, .slice p2 R.2.2.thrs.length c2, .slice p3 R.2.2.sch.length c3, .int .i64 R.2.2.most] 27))) := Lib.hid ((Below.refl _ _).alloc (Nat.le_refl _) _)
        clear hrw hb2 HP
        go_upto_region 10 with fail
        generalize w2.alloc (.cells #[.slice p1 R.2.2.tops.length c1, .slice p2 R.2.2.thrs.length c2, .slice p3 R.2.2.sch.length c3, .int .i64 R.2.2.most] 27) = w3 at *
        generalize hb1 : w2.heap.size = b1 at *
        have HB1E := Lib.hid hb1
        clear hb1
        go_wp2_with fail
        refine (HPR.out _).mono ?_
        rintro e w4 ⟨tv, hv, sv, V2, rfl, hrw, _, hb4⟩
        have HSB := Lib.hid hrw.read
        obtain ⟨q1, d1, rfl, _, _⟩ := hrw.read.tops
        obtain ⟨q2, d2, rfl, _, _⟩ := hrw.read.thrs
        obtain ⟨q3, d3, rfl, _, _⟩ := hrw.read.sch
        have HB4 := Lib.hid hb4
        have HX2 := Lib.hid (heap_alloc_new w4 (.cells #[.slice q1 R.2.2.tops.length d1, .slice q2 R.2.2.thrs.length d2, .slice q3 R.2.2.sch.length d3, .int .i64 R.2.2.most] 34))
        have HSZ2 : Hid ((w4.alloc (.cells #[.slice q1 R.2.2.tops.length d1, .slice q2 R.2.2.thrs.length d2, .slice q3 R.2.2.sch.length d3, .int .i64 R.2.2.most] 34)).heap.size = w4.heap.size + 1) := Lib.hid (by simp)
        have HBB : Hid (Below w4.heap.size w4 (w4.alloc (.cells #[.slice q1 R.2.2.tops.length d1, .slice q2 R.2.2.thrs.length d2, .slice q3 R.2.2.sch.length d3, .int .i64 R.2.2.most] 34))) := Lib.hid ((Below.refl _ _).alloc (Nat.le_refl _) _)
        clear hrw hb4 HPR
        go_upto_region 11 with fail
        generalize w4.alloc (.cells #[.slice q1 R.2.2.tops.length d1, .slice q2 R.2.2.thrs.length d2, .slice q3 R.2.2.sch.length d3, .int .i64 R.2.2.most] 34) = w5 at *
        generalize hb2 : w4.heap.size = b2 at *
        have HB2E := Lib.hid hb2
        clear hb2
        have HB35 : Hid (Below w3.heap.size w3 w5) := Lib.hid (HB4.out.trans (HBB.out.mono (by rw [← HB2E.out]; exact HB4.out.size)))
        have HSZ3 : Hid (b1 < w3.heap.size ∧ b2 < w5.heap.size ∧ w3.heap.size ≤ b2) := Lib.hid ⟨by have := HSZ1.out; omega, by have := HSZ2.out; omega, by rw [← HB2E.out]; exact HB4.out.size⟩
        have HKC : Hid (∀ W, Below w5.heap.size w5 W → (W.cell? ⟨b1, 0, none⟩ = some (.slice p1 R.2.2.tops.length c1) ∧ W.cell? ⟨b1, 1, none⟩ = some (.slice p2 R.2.2.thrs.length c2) ∧ W.cell? ⟨b1, 2, none⟩ = some (.slice p3 R.2.2.sch.length c3) ∧ W.cell? ⟨b1, 3, none⟩ = some (.int .i64 R.2.2.most)) ∧ (W.cell? ⟨b2, 0, none⟩ = some (.slice q1 R.2.2.tops.length d1) ∧ W.cell? ⟨b2, 1, none⟩ = some (.slice q2 R.2.2.thrs.length d2) ∧ W.cell? ⟨b2, 2, none⟩ = some (.slice q3 R.2.2.sch.length d3) ∧ W.cell? ⟨b2, 3, none⟩ = some (.int .i64 R.2.2.most))) := Lib.hid (fun W hW => by
          obtain ⟨g1, g2, g3⟩ := HSZ3.out
          have k1 := (hW.block b2 g2).trans HX2.out
          have k2 := ((HB35.out.trans (hW.mono (by have := HB35.out.size; omega))).block b1 g1).trans HX1.out
          exact ⟨⟨(cell_of k2 0).trans rfl, (cell_of k2 1).trans rfl, (cell_of k2 2).trans rfl, (cell_of k2 3).trans rfl⟩, ⟨(cell_of k1 0).trans rfl, (cell_of k1 1).trans rfl, (cell_of k1 2).trans rfl, (cell_of k1 3).trans rfl⟩⟩)
        have hbw : Below w5.heap.size w5 w5.drew := (Below.refl _ _).drew
        have hSS := HKC.out _ hbw
        have HOA : Hid (∀ W, Below w5.heap.size w5 W → Calls Tryd.prog 14 #[.agg #[.slice p1 R.2.2.tops.length c1, .slice p2 R.2.2.thrs.length c2, .slice p3 R.2.2.sch.length c3, .int .i64 R.2.2.most]] W (OwnD (.slice p3 R.2.2.sch.length c3) V R.2.2 W)) := Lib.hid (fun W hW => own_walk _ _ _ V R.2.2 W (HSA.out.below (by rw [HB1E.out]; exact HBA.out.trans ((HB35.out.trans (hW.mono (by have := HB35.out.size; omega))).mono (by have := HSZ3.out; omega)))) (good_small HG.out))
        have HSBW : Hid (∀ W, Below w5.heap.size w5 W → ScrAt W (.slice q1 R.2.2.tops.length d1) (.slice q2 R.2.2.thrs.length d2) (.slice q3 R.2.2.sch.length d3) V2 R.2.2) := Lib.hid (fun W hW => HSB.out.below (by rw [HB2E.out]; exact HBB.out.trans (hW.mono (by have := HSZ3.out; omega))))
        have HLW : Hid (∀ W, Below w5.heap.size w5 W → Below w1.heap.size w1 W) := Lib.hid (fun W hW => by
          have s0 := HLOW.out.size
          have s1 := HB2.out.size
          have s2 := HB35.out.size
          have s3 := HSZ3.out
          have e2 := HB1E.out
          have t1 : Below w1.heap.size w1 w2 := HLOW.out.trans (HB2.out.mono s0)
          have t2 : Below w1.heap.size w1 w3 := t1.trans (HBA.out.mono (by omega))
          have t3 : Below w1.heap.size w1 w5 := t2.trans (HB35.out.mono t2.size)
          exact t3.trans (hW.mono t3.size))
        refine wp_region_held_drew (S := fun w' => (w'.cell? ⟨b1, 0, none⟩ = some (.slice p1 R.2.2.tops.length c1) ∧ w'.cell? ⟨b1, 1, none⟩ = some (.slice p2 R.2.2.thrs.length c2) ∧ w'.cell? ⟨b1, 2, none⟩ = some (.slice p3 R.2.2.sch.length c3) ∧ w'.cell? ⟨b1, 3, none⟩ = some (.int .i64 R.2.2.most)) ∧ (w'.cell? ⟨b2, 0, none⟩ = some (.slice q1 R.2.2.tops.length d1) ∧ w'.cell? ⟨b2, 1, none⟩ = some (.slice q2 R.2.2.thrs.length d2) ∧ w'.cell? ⟨b2, 2, none⟩ = some (.slice q3 R.2.2.sch.length d3) ∧ w'.cell? ⟨b2, 3, none⟩ = some (.int .i64 R.2.2.most))) (by kernel_rfl) hSS (fun hHeld => ?_)
        refine takeH (i := 0) (v := ?v1) rfl (by kernel_rfl) (by kernel_rfl) (by kernel_rfl) (fun _ _ _ h => h) (by rfl) (by assumption) ?hy1 ?rest1
        case hy1 => (intro w hSw; (try dsimp only at hSw); first | (go_simp; done) | (go_simp; with_reducible rfl))
        try simp only [Act.put, List.setIfInBounds_toArray, List.set_cons_zero, List.set_cons_succ]
        refine takeH (i := 1) (v := ?v2) rfl (by kernel_rfl) (by kernel_rfl) (by kernel_rfl) (fun _ _ _ h => h) (by rfl) (by assumption) ?hy2 ?rest2
        case hy2 => (intro w hSw; (try dsimp only at hSw); first | (go_simp; done) | (go_simp; with_reducible rfl))
        try simp only [Act.put, List.setIfInBounds_toArray, List.set_cons_zero, List.set_cons_succ]
        refine takeH (i := 2) (v := ?v3) rfl (by kernel_rfl) (by kernel_rfl) (by kernel_rfl) (fun _ _ _ h => h) (by rfl) (by assumption) ?hy3 ?rest3
        case hy3 => (intro w hSw; (try dsimp only at hSw); first | (go_simp; done) | (go_simp; with_reducible rfl))
        try simp only [Act.put, List.setIfInBounds_toArray, List.set_cons_zero, List.set_cons_succ]
        refine takeH (i := 3) (v := ?v4) rfl (by kernel_rfl) (by kernel_rfl) (by kernel_rfl) (fun _ _ _ h => h) (by rfl) (by assumption) ?hy4 ?rest4
        case hy4 => (intro w hSw; (try dsimp only at hSw); first | (go_simp; done) | (go_simp; with_reducible rfl))
        try simp only [Act.put, List.setIfInBounds_toArray, List.set_cons_zero, List.set_cons_succ]
        refine takeH (i := 4) (v := ?v5) rfl (by kernel_rfl) (by kernel_rfl) (by kernel_rfl) (fun _ _ _ h => h) (by rfl) (by assumption) ?hy5 ?rest5
        case hy5 => (intro w hSw; (try dsimp only at hSw); first | (go_simp; done) | (go_simp; with_reducible rfl))
        try simp only [Act.put, List.setIfInBounds_toArray, List.set_cons_zero, List.set_cons_succ]
        refine takeH (i := 5) (v := ?v6) rfl (by kernel_rfl) (by kernel_rfl) (by kernel_rfl) (fun _ _ _ h => h) (by rfl) (by assumption) ?hy6 ?rest6
        case hy6 => (intro w hSw; (try dsimp only at hSw); first | (go_simp; done) | (go_simp; with_reducible rfl))
        try simp only [Act.put, List.setIfInBounds_toArray, List.set_cons_zero, List.set_cons_succ]
        refine takeH (i := 6) (v := ?v7) rfl (by kernel_rfl) (by kernel_rfl) (by kernel_rfl) (fun _ _ _ h => h) (by rfl) (by assumption) ?hy7 ?rest7
        case hy7 => (intro w hSw; (try dsimp only at hSw); first | (go_simp; done) | (go_simp; with_reducible rfl))
        try simp only [Act.put, List.setIfInBounds_toArray, List.set_cons_zero, List.set_cons_succ]
        refine takeH (i := 7) (v := ?v8) rfl (by kernel_rfl) (by kernel_rfl) (by kernel_rfl) (fun _ _ _ h => h) (by rfl) (by assumption) ?hy8 ?rest8
        case hy8 => (intro w hSw; (try dsimp only at hSw); first | (go_simp; done) | (go_simp; with_reducible rfl))
        try simp only [Act.put, List.setIfInBounds_toArray, List.set_cons_zero, List.set_cons_succ]
        refine takeH (i := 8) (v := ?v9) rfl (by kernel_rfl) (by kernel_rfl) (by kernel_rfl) (fun _ _ _ h => h) (by rfl) (by assumption) ?hy9 ?rest9
        case hy9 => (intro w hSw; (try dsimp only at hSw); first | (go_simp; done) | (go_simp; with_reducible rfl))
        try simp only [Act.put, List.setIfInBounds_toArray, List.set_cons_zero, List.set_cons_succ]
        refine takeH (i := 9) (v := ?v10) rfl (by kernel_rfl) (by kernel_rfl) (by kernel_rfl) (fun _ _ _ h => h) (by rfl) (by assumption) ?hy10 ?rest10
        case hy10 => (intro w hSw; (try dsimp only at hSw); first | (go_simp; done) | (go_simp; with_reducible rfl))
        try simp only [Act.put, List.setIfInBounds_toArray, List.set_cons_zero, List.set_cons_succ]
        refine takeH (i := 11) (v := ?v11) rfl (by kernel_rfl) (by kernel_rfl) (by kernel_rfl) (fun _ _ _ h => h) (by rfl) (by assumption) ?hy11 ?rest11
        case hy11 => (intro w hSw; (try dsimp only at hSw); first | (go_simp; done) | (go_simp; with_reducible rfl))
        try simp only [Act.put, List.setIfInBounds_toArray, List.set_cons_zero, List.set_cons_succ]
        refine wpAnyH_ready (rs := [10]) (by kernel_rfl) (by simp) (consH rfl (fun K hK => ?_) AllReadyH.nil)
        go_simp
        go_at_call 14
        refine (HOA.out _ hbw).mono ?_
        rintro e w6 ⟨tv, hv, rfl, hSO, hb6⟩
        have hbw6 := hbw.trans (hb6.mono hbw.size)
        have HSO := Lib.hid hSO
        obtain ⟨o1, e1, rfl, _, _⟩ := hSO.tops
        obtain ⟨o2, e2, rfl, _, _⟩ := hSO.thrs
        have HBW6 := Lib.hid hbw6
        have hSS := HKC.out _ hbw6
        clear hSO hb6 hbw
        refine hK.out _ _ hSS (fun hHeld => ?_)
        clear hK K
        try simp only [Act.put, List.setIfInBounds_toArray, List.set_cons_zero, List.set_cons_succ]
        refine wpAnyH_ready (rs := [12]) (by kernel_rfl) (by simp) (consH rfl (fun K hK => ?_) AllReadyH.nil)
        go_simp
        go_at_call 13
        refine (rsame_walk _ _ _ _ _ _ V V2 R.2.2 R.2.2 w6 HSO.out (HSBW.out _ HBW6.out) (good_small HG.out) (good_small HG.out)).mono ?_
        rintro e w7 ⟨rfl, hb7⟩
        rw [decide_eq_true (show R.2.2 = R.2.2 from rfl)]
        have HBW7 := Lib.hid (HBW6.out.trans (hb7.mono HBW6.out.size))
        have hSS := HKC.out _ HBW7.out
        refine hK.out _ _ hSS (fun hHeld => ?_)
        clear hK K
        try simp only [Act.put, List.setIfInBounds_toArray, List.set_cons_zero, List.set_cons_succ]
        refine takeH (i := 13) (v := ?v12) rfl (by kernel_rfl) (by kernel_rfl) (by kernel_rfl) (fun _ _ _ h => h) (by rfl) (by assumption) ?hy12 ?rest12
        case hy12 => (intro w hSw; (try dsimp only at hSw); first | (go_simp; done) | (go_simp; with_reducible rfl))
        try simp only [Act.put, List.setIfInBounds_toArray, List.set_cons_zero, List.set_cons_succ]
        refine takeH (i := 14) (v := ?v13) rfl (by kernel_rfl) (by kernel_rfl) (by kernel_rfl) (fun _ _ _ h => h) (by rfl) (by assumption) ?hy13 ?rest13
        case hy13 => (intro w hSw; (try dsimp only at hSw); first | (go_simp; done) | (go_simp; with_reducible rfl))
        try simp only [Act.put, List.setIfInBounds_toArray, List.set_cons_zero, List.set_cons_succ]
        refine wpAnyH_done (by kernel_rfl) ?_ _
        clear hHeld hSS hbw6 hb7
        go_wp2_with fail
        go_roundw
        case rel => exact ⟨i + 1, by omega, by go_num, HLW.out _ HBW7.out⟩
        case measure => simp [intOf]; omega
    have hie : i = mn + 1 := by omega
    have hd : decide ((i : Int) < min (s.size : Int) 100 + 1) = false := decide_eq_false (by rw [HMN.out]; omega)
    clear hie hin hi
    go_wp2_with fail
    go_ret
    exact ⟨rfl, HB1.out.trans (HLOW.out.mono HB1.out.size)⟩
end Go.Proofs.YtdmhlhoimaeacaaDoor
