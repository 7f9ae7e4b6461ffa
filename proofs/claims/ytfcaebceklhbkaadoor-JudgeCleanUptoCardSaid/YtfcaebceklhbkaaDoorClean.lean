/-
  The law JudgeClean (f9): the walk.
-/
import Derived.Test.YtfcaebceklhbkaaDoorCleanHead
import Derived.Deep.DeepCutAuto
import Derived.Deep.CutBlock
import Derived.Lib.AppendZeros
import Derived.Test.YtfcaebceklhbkaaDoorFixed
import Derived.Test.YtfcaebceklhbkaaDoorPlayed
namespace Go.Proofs.YtfcaebceklhbkaaDoor
open Go.RowKit
set_option linter.unusedVariables false

set_option maxRecDepth 100000 in
set_option maxHeartbeats 16000000 in
theorem cleanLaw_walk (wo fo : Option Addr) (n nc mf fc : Nat) (f g : Nat → Int) (wh how : Int) (w : World) (hF : BytesAt w wo n f) (hG : BytesAt w fo mf g) (hf4 : ∀ i, 0 ≤ f i % 4) (hwh : 0 ≤ wh ∧ wh < 256) (hhow : 0 ≤ how ∧ how < 256)
    (hn : n + mf ≤ 1048576) (ht : Tab w) :
    Calls Tryd.prog 9 #[.slice wo n nc, .slice fo mf fc, .int .u8 wh, .int .u8 how] w fun e w' => e = .returned (.bool true) ∧ Below w.heap.size w w' := by
  have HFX := Lib.hid (fixed_walk w ht)
  have HF := Lib.hid hF
  have HG := Lib.hid hG
  have HF4 := Lib.hid hf4
  obtain ⟨i73, hi73, y0, y1, y2⟩ := info_parts info73
  clear hF hG ht hf4
  go_enter Tryd.func9, Tryd.ntmps9
  go_wp2_with fail
  refine HFX.out.mono ?_
  rintro e w1 ⟨rfl, hb1⟩
  have HB1 := Lib.hid hb1
  have HIS : Hid (ItSt w w.heap.size w1.heap.size f (.slice none 0 0) 0 (w1.alloc (.cells #[.int .i64 0, .int .i64 0, .int .i64 0, .int .i64 0] 71))) := by
    refine Lib.hid ⟨World.ownsRow_nil _ _ _ _, ⟨_, heap_alloc_new w1 _, rfl, fun k hk => ?_⟩, hb1.alloc hb1.size _, by have := hb1.size; simp; omega, hb1.size⟩
    simp only [cntA]
    rcases (by omega : k = 0 ∨ k = 1 ∨ k = 2 ∨ k = 3) with rfl | rfl | rfl | rfl <;> rfl
  clear hb1
  generalize hN : w.heap.size = N at *
  have HN := Lib.hid hN
  clear hN
  go_wp2_with fail
  generalize hnb : w1.heap.size = nb at *
  clear hnb
  go_loopw [9, 11] (fun v iv wr => ∃ i : Nat, i ≤ n ∧ iv = .int .i64 i ∧ ItSt w N nb f v i wr) (fun _ iv _ => n - (intOf iv).toNat)
  case atStart => exact ⟨0, by omega, rfl, HIS.out⟩
  case round =>
    obtain ⟨i, hi, rfl, his⟩ := hrel
    by_cases hlt : i < n
    · obtain ⟨gw, ow, rfl, hcw⟩ : ∃ g o, wo = some ⟨g, o, none⟩ ∧ ∀ i, i < n → w.cell? ⟨g, o + i, none⟩ = some (.int .u8 (f i)) ∧ 0 ≤ f i ∧ f i < 256 := by
        rcases HF.out with h | h
        · omega
        · exact h
      obtain ⟨c1, f0, f1⟩ := hcw i hlt
      have c2 := (his.low.cell (p := ⟨gw, ow + i, none⟩) (by rw [← HN.out]; exact World.block_lt_of_cell? w _ c1)).trans c1
      obtain ⟨k, hk⟩ : ∃ k : Nat, f i % 4 = (k : Int) := ⟨(f i % 4).toNat, by omega⟩
      have hk4 : k < 4 := by omega
      have htm : (f i).tmod 4 = (k : Int) := by rw [Int.tmod_eq_emod_of_nonneg f0]; exact hk
      have HIT := Lib.hid his
      obtain ⟨cs, hc1, hc2, hc3⟩ := his.num
      have e1 := (cell_of hc1 k).trans (hc3 k hk4)
      have hcl := cntA_le (itemsF f i) (k : Int) i
      have HST := Lib.hid (fun (o : Obj) (v' : Value) (w1 : World) ha => his.step (o := o) (v' := v') (w1 := w1) hk hk4 ha)
      have HOW := Lib.hid (his.row.alloc (.cells (Itm.cells ⟨(k : Int), ((cntA (itemsF f i) (k : Int) i : Nat) : Int), (i : Int) * 3⟩).toArray 73))
      have HSX := Lib.hid (src_one0 wr (Itm.cells ⟨(k : Int), ((cntA (itemsF f i) (k : Int) i : Nat) : Int), (i : Int) * 3⟩).toArray 73 3 rfl (itm_one _))
      have HNW := Lib.hid his.nw
      clear hcw c1 his hc1 hc2 hc3
      generalize cntA (itemsF f i) (k : Int) i = cn at *
      generalize f i = fi at *
      go_wp2_with (at_builtin; go_must (refine wpList_append_row rfl (.tmp 42) (.tmp 50) 55 rfl N 73 i73 _ 3 24 Tryd.underlying55 hi73 y0 y1 (by decide) y2 rfl u9 i (icells (itemsF f i)) rfl HOW.out 1 (Itm.cells ⟨(k : Int), (cn : Int), (i : Int) * 3⟩) HSX.out ?l2 ?b2 ?n2 ?_); go_must (case l2 => (unfold maxLen; omega)); go_must (case b2 => omega); go_must (case n2 => (have := HNW.out; simp; omega)); intro v' w' ha; go_must (obtain ⟨q1, q2, q3⟩ := HST.out _ _ _ ha); have HQ3 := Lib.hid q3; clear q3 ha)
      go_roundw
      case rel => exact ⟨i + 1, by omega, by go_num, HQ3.out⟩
      case measure => simp [intOf]; omega
    · obtain rfl : i = n := by omega
      obtain ⟨io, ic, rfl⟩ : ∃ io ic, u9 = .slice io i ic := by
        rcases his.row.2 with ⟨e, h0⟩ | ⟨g, cap, _, e, _⟩
        · exact ⟨none, 0, by rw [e, h0]⟩
        · exact ⟨_, cap, e⟩
      have hTl := itemsF_length f i
      have HGT := Lib.hid (itemsF_good f i (by omega))
      have HS3 := Lib.hid (itemsF_in64 f HF4.out i (by omega))
      have HRD : Hid (RdSt w N i (itemsF f i) g (.slice io i ic) 0 (.slice none 0 0) (fun _ => none) (fun _ => 0) wr) := Lib.hid ⟨his.row, World.ownsRow_nil _ _ _ _, fun r hr => by omega, his.low, his.nw⟩
      obtain ⟨i75, hi75, z0, z1, z2⟩ := info_parts info75
      obtain ⟨i56, hi56, x0, x1, x2⟩ := info_parts info56
      clear his
      generalize itemsF f i = T at *
      generalize wr = w2 at *
      go_wp2_with fail
      go_loopw [13, 14] (fun v jv wr => ∃ j : Nat, j ≤ mf ∧ jv = .int .i64 j ∧ (i = 0 → j = 0) ∧ ∃ A C, RdSt w N i T g (.slice io i ic) j v A C wr) (fun _ jv _ => mf - (intOf jv).toNat)
      case atStart => exact ⟨0, by omega, rfl, fun _ => rfl, _, _, HRD.out⟩
      case round =>
        obtain ⟨j, hj, rfl, hj0, A, C, hrd⟩ := hrel
        have HR := Lib.hid hrd
        by_cases hend : j < mf ∧ 0 < i
        · obtain ⟨hjm, hi0⟩ := hend
          have hi0' : (i : Int) > 0 := by omega
          obtain ⟨gw, ow, rfl, hcw⟩ : ∃ g' o, fo = some ⟨g', o, none⟩ ∧ ∀ i, i < mf → w.cell? ⟨g', o + i, none⟩ = some (.int .u8 (g i)) ∧ 0 ≤ g i ∧ g i < 256 := by
            rcases HG.out with h | h
            · omega
            · exact h
          obtain ⟨c1, g0, g1⟩ := hcw j hjm
          have HCW : Hid (∀ W, Below N w W → W.cell? ⟨gw, ow + j, none⟩ = some (.int .u8 (g j))) := Lib.hid (fun W hW => (hW.cell (p := ⟨gw, ow + j, none⟩) (by rw [← HN.out]; exact World.block_lt_of_cell? w _ c1)).trans c1)
          have c2 := HCW.out wr hrd.low
          have HSTEP := Lib.hid (fun (wi w1 : World) (v' : Value) (a : Option Addr) (c : Nat) (o : Obj) hb hi ha => hrd.step (wi := wi) (w1 := w1) (v' := v') (a := a) (c := c) (o := o) hb hi ha)
          have HRO : Hid (runOf T i (g j) = runL T (g j % i).toNat ((i : Int) - g j % 3 - g j % i).toNat) := rfl
          have hle := runOf_run (x := g j) hTl hi0 g0
          have hm1 := Int.emod_nonneg (g j) (show (i : Int) ≠ 0 by omega)
          have hm2 := Int.emod_lt_of_pos (g j) (show (0 : Int) < i by omega)
          have htm : (g j).tmod i = g j % i := by rw [Int.tmod_eq_emod_of_nonneg g0]
          have htm3 : (g j).tmod 3 = g j % 3 := by rw [Int.tmod_eq_emod_of_nonneg g0]
          have h3a : 0 ≤ g j % 3 ∧ g j % 3 ≤ 2 := by omega
          have hne0 : ¬ (i : Int) = 0 := by omega
          have hROW := Lib.hid hrd.row
          have HNW := Lib.hid hrd.nw
          have HLOW := Lib.hid hrd.low
          have HITS0 := Lib.hid hrd.its
          generalize runOf T i (g j) = S at *
          obtain ⟨p, hp⟩ : ∃ p : Nat, g j % i = (p : Int) := ⟨(g j % i).toNat, by omega⟩
          rw [hp] at htm hm1 hm2 hle HRO
          simp only [Int.toNat_natCast] at hle HRO
          obtain ⟨t3, h3⟩ : ∃ t3 : Int, g j % 3 = t3 := ⟨_, rfl⟩
          rw [h3] at htm3 h3a hle HRO
          generalize g j = x at *
          clear hrd hcw c1 hp h3
          generalize hM : ((i : Int) - t3 - p).toNat = M at *
          have HM := Lib.hid hM
          clear hM
          have HSL : Hid (S.length = M) := Lib.hid (by rw [hid_eq HRO, runL_length])
          have HITS := HITS0
          generalize wr = wo at *
          go_wp2_with fail
          go_loopw [16, 17] (fun lv qv wr => ∃ q : Nat, p ≤ q ∧ q ≤ p + M ∧ qv = .int .i64 (q : Int) ∧ wr.ownsRow wo.heap.size 75 4 lv (q - p) (scells (runL T p (q - p))) ∧ Below wo.heap.size wo wr) (fun _ qv _ => p + M - (intOf qv).toNat)
          case atStart => exact ⟨p, Nat.le_refl _, by omega, rfl, by rw [Nat.sub_self]; exact World.ownsRow_nil _ _ _ _, Below.refl _ _⟩
          case round =>
            obtain ⟨q, hq0, hq1, rfl, hrow, hlow⟩ := hrel
            have hwo : wo.heap.size ≤ wr.heap.size := hlow.size
            have c3 := HCW.out wr (HLOW.out.trans (hlow.mono HNW.out))
            by_cases hlt2 : q < p + M
            · have hcond : (q : Int) < (i : Int) - t3 := by have := HM.out; omega
              have hits := own_below HITS.out hlow
              obtain ⟨gi, rfl⟩ : ∃ gi, io = some ⟨gi, 0, none⟩ := by
                rcases hits.2 with ⟨e, h0⟩ | ⟨g, cap, _, e, _⟩
                · omega
                · cases e; exact ⟨g, rfl⟩
              have hqT : q < T.length := by omega
              have d0 := (hits.cellAt (q * 3) (by omega)).trans (icells_get T q 0 hqT (by omega))
              have d1 := (hits.cellAt (q * 3 + 1) (by omega)).trans (icells_get T q 1 hqT (by omega))
              have d2 := (hits.cellAt (q * 3 + 2) (by omega)).trans (icells_get T q 2 hqT (by omega))
              have HSE : Hid (seenAt T q = ⟨q, (T.getD q default).a, (T.getD q default).b, (T.getD q default).d⟩) := rfl
              have HNX : Hid (scells (runL T p (q + 1 - p)) = scells (runL T p (q - p)) ++ (seenAt T q).cells) := Lib.hid (by
                rw [show q + 1 - p = (q - p) + 1 by omega, runL_succ, scells_snoc, show p + (q - p) = q by omega])
              have HLW := Lib.hid hlow
              generalize T.getD q default = tq at *
              obtain ⟨ta, tb, td⟩ := tq
              simp only at HSE
              rw [HSE.out] at HNX
              have e0 : wr.cell? ⟨gi, q * 3, none⟩ = some (.int .i64 ta) := d0
              have e1 : wr.cell? ⟨gi, q * 3 + 1, none⟩ = some (.int .i64 tb) := d1
              have e2 : wr.cell? ⟨gi, q * 3 + 2, none⟩ = some (.int .i64 td) := d2
              have HOW := Lib.hid (hrow.alloc (.cells (Seen4.cells ⟨q, ta, tb, td⟩).toArray 75))
              have HRW := Lib.hid hrow
              have HSX := Lib.hid (src_one0 wr (Seen4.cells ⟨q, ta, tb, td⟩).toArray 75 4 rfl (seen_one' _))
              clear hits d0 d1 d2 hrow hlow HSE
              go_wp2_with (at_builtin; go_must (refine wpList_append_row rfl (.tmp 90) (.tmp 97) 56 rfl wo.heap.size 75 i75 _ 4 32 Tryd.underlying56 hi75 z0 z1 (by decide) z2 rfl u16 (q - p) (scells (runL T p (q - p))) rfl HOW.out 1 (Seen4.cells ⟨q, ta, tb, td⟩) HSX.out ?l2 ?b2 ?n2 ?_); go_must (case l2 => (unfold maxLen; omega)); go_must (case b2 => omega); go_must (case n2 => (simp; omega)); intro v' w' ha; have HA1 := Lib.hid ha.1; have HA2 : Hid (Below wo.heap.size wo w') := Lib.hid ((HLW.out.alloc hwo _).grown ha.2.1 (by simp; omega) (fun g hg => (HRW.out.lt g hg).1)); clear ha)
              go_roundw
              case rel => exact ⟨q + 1, by omega, by omega, by go_num, by rw [HNX.out, show q + 1 - p = q - p + 1 by omega]; exact HA1.out, HA2.out⟩
              case measure => simp [intOf]; omega
            · obtain rfl : q = p + M := by omega
              have hcond : ¬ ((p + M : Nat) : Int) < (i : Int) - t3 := by have := HM.out; omega
              rw [Nat.add_sub_cancel_left] at hrow
              obtain ⟨la, lc, rfl⟩ : ∃ la lc, u16 = .slice la M lc := by
                rcases hrow.2 with ⟨e, h0⟩ | ⟨g, cap, _, e, _⟩
                · exact ⟨none, 0, by rw [e, h0]⟩
                · exact ⟨_, cap, e⟩
              have hi : wr.ownsRow wo.heap.size 75 4 (.slice la S.length lc) S.length (scells S) := by
                rw [HSL.out, hid_eq HRO]
                exact hrow
              have HI := Lib.hid hi
              have HLW := Lib.hid hlow
              have HOW := Lib.hid ((own_below hROW.out hlow).alloc (.cells #[.slice la M lc] 56))
              have HSX := Lib.hid (src_one0 wr #[.slice la M lc] 56 1 rfl (by intro x hx; simp at hx; subst hx; rfl))
              have hnw2 : N ≤ wr.heap.size := Nat.le_trans HNW.out hwo
              clear hrow hi hlow
              go_wp2_with (at_builtin; go_must (refine wpList_append_row rfl (.tmp 99) (.tmp 101) 54 rfl N 56 i56 _ 1 24 Tryd.underlying54 hi56 x0 x1 (by decide) x2 rfl u13 j _ rfl HOW.out 1 [.slice la M lc] HSX.out ?l2 ?b2 ?n2 ?_); go_must (case l2 => (unfold maxLen; omega)); go_must (case b2 => omega); go_must (case n2 => (simp; omega)); intro v' w' ha; have HQ := Lib.hid (HSTEP.out wr w' v' la lc _ HLW.out HI.out (by rw [HSL.out]; exact ha)); clear ha)
              go_roundw
              case rel => exact ⟨j + 1, by omega, by go_num, fun h => by omega, _, _, HQ.out⟩
              case measure => simp [intOf]; omega
        · have hg0 : ∀ r, r < j → 0 ≤ g r := fun r hr => by
            rcases HG.out with h | ⟨_, _, _, h⟩
            · omega
            · exact (h r (by omega)).2.1
          obtain ⟨ro, rc, rfl⟩ : ∃ ro rc, u13 = .slice ro j rc := by
            rcases hrd.row.2 with ⟨e, h0⟩ | ⟨q, cap, _, e, _⟩
            · exact ⟨none, 0, by rw [e, h0]⟩
            · exact ⟨_, cap, e⟩
          obtain ⟨hrs, hrn⟩ := hrd.readers hTl HS3.out (by omega) (by omega) hg0
          have hir := item_row hTl hrd.its
          have htm := tot_mul (R := fun r => runOf T i (g r)) (n := i) j (fun r hr => by
            rcases Nat.eq_zero_or_pos i with h | h
            · have := hj0 h; omega
            · exact runOf_length h (hg0 r hr))
          have hmb : j * i ≤ 274877906944 := mul_bound (by omega)
          have H32 := Lib.hid (all0_walk ro j rc A C (fun r => runOf T i (g r)) io i ic T wr hrs (by omega) (by omega) hir HS3.out hTl (by omega) (all_clean HGT.out hrn))
          have hLow := hrd.low
          have HLOW := Lib.hid hLow
          have hnwr : N ≤ wr.heap.size := hrd.nw
          by_cases hj00 : j = 0
          · subst hj00
            rcases (by omega : mf = 0 ∨ (0 < mf ∧ i = 0)) with hm0 | ⟨hm0, hi0⟩
            · subst hm0
              clear hrs hir hrd hLow htm hmb hrn
              go_wp2_with fail
              all_goals
                refine H32.out.mono ?_
                rintro e w3 ⟨a3, c3, rfl, hb3⟩
                have HB3 := Lib.hid (HLOW.out.trans (hb3.mono hnwr))
                clear hb3
                go_wp2_with fail
                go_ret
                exact ⟨rfl, by rw [HN.out]; exact HB3.out⟩
            · subst hi0
              have hm1 : (0 : Int) < mf := by omega
              clear hrs hir hrd hLow htm hmb hrn
              go_wp2_with fail
              all_goals
                refine H32.out.mono ?_
                rintro e w3 ⟨a3, c3, rfl, hb3⟩
                have HB3 := Lib.hid (HLOW.out.trans (hb3.mono hnwr))
                clear hb3
                go_wp2_with fail
                go_ret
                exact ⟨rfl, by rw [HN.out]; exact HB3.out⟩
          · obtain rfl : j = mf := by omega
            have hi0 : 0 < i := by
              rcases Nat.eq_zero_or_pos i with h | h
              · have := hj0 h; omega
              · exact h
            have HR0 := Lib.hid hrd
            have HRN := Lib.hid hrn
            have HG0 := Lib.hid hg0
            have HTM := Lib.hid (Nat.le_trans htm hmb)
            clear hrs hir hrd hLow htm hmb hrn hg0 hend
            generalize wr = wq at *
            go_wp2_with fail
            refine H32.out.mono ?_
            rintro e w3 ⟨a3, c3, rfl, hb3⟩
            have HB3 := Lib.hid (HLOW.out.trans (hb3.mono hnwr))
            have HB3' := Lib.hid hb3
            have hn3 : N ≤ w3.heap.size := Nat.le_trans hnwr hb3.size
            obtain ⟨r, hr⟩ : ∃ r : Nat, wh % (j : Int) = (r : Int) := ⟨(wh % (j : Int)).toNat, by have := Int.emod_nonneg wh (show (j : Int) ≠ 0 by omega); omega⟩
            have hrj : r < j := by have := Int.emod_lt_of_pos wh (show (0 : Int) < j by omega); omega
            have hwm : wh.tmod (j : Int) = (r : Int) := by rw [Int.tmod_eq_emod_of_nonneg hwh.1]; exact hr
            have hjne : ¬ (j : Int) = 0 := by omega
            obtain ⟨gr, rfl⟩ : ∃ gr, ro = some ⟨gr, 0, none⟩ := by
              rcases HR0.out.row.2 with ⟨e, h0⟩ | ⟨q, cap, _, e, _⟩
              · omega
              · cases e; exact ⟨q, rfl⟩
            have hcell := (HR0.out.row.cellAt r (by omega)).trans (show _ = some (Value.slice (A r) (runOf T i (g r)).length (C r)) by simp [hrj])
            have c1 := (hb3.cell (p := ⟨gr, r, none⟩) (World.block_lt_of_cell? wq _ hcell)).trans hcell
            have hLrow := own_below (HR0.out.each r hrj) hb3
            have HLROW := Lib.hid hLrow
            have hLrun := HRN.out r hrj
            have HLRUN := Lib.hid hLrun
            have HSM : Hid (Small4 (runOf T i (g r))) := Lib.hid (runL_small (p := (g r % (i : Int)).toNat) (m := ((i : Int) - g r % 3 - g r % (i : Int)).toNat) HS3.out (by omega) (runOf_run (T := T) (x := g r) hTl hi0 (HG0.out r hrj)))
            have hLn := runOf_length (T := T) hi0 (HG0.out r hrj)
            clear hb3 hcell hLrow hLrun hr H32
            obtain ⟨L, hL⟩ : ∃ L, (runOf T i (g r)).length = L := ⟨_, rfl⟩
            have HL := Lib.hid hL
            rw [hL] at c1 HLROW hLn
            clear hL
            by_cases hL3 : L < 3
            · have hL3' : (L : Int) < 3 := by omega
              go_wp2_with fail
              go_ret
              exact ⟨rfl, by rw [HN.out]; exact HB3.out⟩
            · have hL3' : ¬ (L : Int) < 3 := by omega
              obtain ⟨q, hq⟩ : ∃ q : Nat, how / 4 % ((L : Int) - 2) = (q : Int) := ⟨(how / 4 % ((L : Int) - 2)).toNat, by have := Int.emod_nonneg (how / 4) (show (L : Int) - 2 ≠ 0 by omega); omega⟩
              have hqL : q + 2 < L := by have := Int.emod_lt_of_pos (how / 4) (show (0 : Int) < (L : Int) - 2 by omega); omega
              have hh4 : how.tdiv 4 = how / 4 := by rw [Int.tdiv_eq_ediv_of_nonneg hhow.1]
              have hhq : (how / 4).tmod ((L : Int) - 2) = (q : Int) := by rw [Int.tmod_eq_emod_of_nonneg (by omega)]; exact hq
              have hLne : ¬ (L : Int) - 2 = 0 := by omega
              obtain ⟨k, hk⟩ : ∃ k : Nat, 1 + q = k := ⟨_, rfl⟩
              have hk1 : (1 : Int) + (q : Int) = (k : Int) := by omega
              have hkL : k + 1 < L := by omega
              have hk0 : 0 < k := by omega
              generalize hS0 : runOf T i (g r) = S at *
              have HS0 := Lib.hid hS0
              clear hS0
              obtain ⟨gl, hgl⟩ : ∃ gl, A r = some ⟨gl, 0, none⟩ := by
                rcases HLROW.out.2 with ⟨e, h0⟩ | ⟨q, cap, _, e, _⟩
                · omega
                · injection e with e1 e2 e3; exact ⟨q, e1⟩
              rw [hgl] at c1 HLROW
              generalize C r = cr at *
              have hcr : L ≤ cr := by
                rcases HLROW.out.2 with ⟨e, h0⟩ | ⟨q, cap, _, e, _, _, hc, _⟩
                · omega
                · injection e with e1 e2 e3; omega
              have hc4 : how.tmod 4 = how % 4 := by rw [Int.tmod_eq_emod_of_nonneg hhow.1]
              clear hq hk
              obtain ⟨v1, w4, q1, o1, b1⟩ := app_seen (w := w3) (M := w3.heap.size) (n := 0) (m := k) (v := .slice none 0 0) (x := .slice (some ⟨gl, 0, none⟩) k cr) (X := []) (Y := (S.drop 0).take k) (Nat.le_refl _) (World.ownsRow_nil _ _ _ _) (by have := sub_src (a := 0) (m := k) (c' := cr) HLROW.out HL.out (by omega); rwa [Nat.zero_mul] at this) (by omega) (by omega)
              have HQ1 := Lib.hid q1
              have HO1 := Lib.hid o1
              have HB4 := Lib.hid b1
              have HLROW4 := Lib.hid (own_below HLROW.out b1)
              have hs := fun j (hj : j < 4) => (HLROW4.out.cellAt (k * 4 + j) (by omega)).trans (scells_get S k j (by rw [HL.out]; omega) hj)
              have HXK : Hid (S.getD k default = S.getD k default) := rfl
              generalize hxk : S.getD k default = xk at *
              have HXE := Lib.hid hxk
              obtain ⟨xq, xa, xb, xd⟩ := xk
              have HXD : Hid (0 ≤ xd ∧ xd ≤ 12000000) := by
                obtain ⟨p0, hp0⟩ := HLRUN.out
                have h1 := hp0 k (by rw [HL.out]; omega)
                have h2 := HGT.out.val _ h1.1
                have h3 := HGT.out.len
                have h4 : xd = 3 * ((p0 + k : Nat) : Int) := by
                  have h5 := congrArg Seen4.d (HXE.out.symm.trans h1.2)
                  exact h5.trans h2
                have h6 := h1.1
                exact Lib.hid ⟨by omega, by omega⟩
              have s0 : w4.cell? ⟨gl, k * 4, none⟩ = some (.int .i64 xq) := hs 0 (by omega)
              have s1 : w4.cell? ⟨gl, k * 4 + 1, none⟩ = some (.int .i64 xa) := hs 1 (by omega)
              have s2 : w4.cell? ⟨gl, k * 4 + 2, none⟩ = some (.int .i64 xb) := hs 2 (by omega)
              have s3 : w4.cell? ⟨gl, k * 4 + 3, none⟩ = some (.int .i64 xd) := hs 3 (by omega)
              clear q1 o1 b1 hs hxk HXK
              have HM3 : Hid (w3.heap.size ≤ w4.heap.size) := Lib.hid HB4.out.size
              have HO1' : Hid (w4.ownsRow w3.heap.size 75 4 v1 k (scells ((S.drop 0).take k))) := by
                have h := HO1.out
                rw [Nat.zero_add, List.nil_append] at h
                exact Lib.hid h
              have HXC := Lib.hid (heap_alloc_new w4 (.cells #[.int .i64 xq, .int .i64 xa, .int .i64 xb, .int .i64 xd] 75))
              have HBX : Hid (Below w4.heap.size w4 (w4.alloc (.cells #[.int .i64 xq, .int .i64 xa, .int .i64 xb, .int .i64 xd] 75))) := Lib.hid ((Below.refl _ _).alloc (Nat.le_refl _) _)
              obtain ⟨hm, hhm⟩ : ∃ hm, how % 4 = hm := ⟨_, rfl⟩
              have hi4 : hm = 0 ∨ hm = 1 ∨ hm = 2 ∨ hm = 3 := by omega
              rw [hhm] at hc4
              clear hhm
              have HP := Lib.hid (slip_parts S k ⟨xq, xa, xb, xd + 1⟩ (by rw [HL.out]; omega))
              rw [HL.out] at HP
              go_upto_block 6 with (at_builtin; go_must (refine Lib.wpList_append_run _ rfl _ _ _ _ rfl _ _ rfl rfl _ _ HQ1.out ?_))
              clear s0 s1 s2 s3
              go_cut [21] (fun bv wx => ∃ c B, c < 4 ∧ B = slip S k ⟨xq, xa, xb, xd + 1⟩ c ∧ wx.ownsRow w3.heap.size 75 4 bv B.length (scells B) ∧ Below w3.heap.size w3 wx)
              case first =>
                rcases hi4 with rfl | rfl | rfl | rfl
                · obtain ⟨v2, w6, q2, o2, b2⟩ := app_seen (w := (w4.alloc (.cells #[.int .i64 xq, .int .i64 xa, .int .i64 xb, .int .i64 xd] 75))) (M := w3.heap.size) (by simp; have := HM3.out; omega) (HO1'.out.alloc _) (sub_src (a := k + 1) (m := L - (k + 1)) (c' := cr - (k + 1)) (HLROW4.out.alloc _) HL.out (by omega)) (by omega) (by omega)
                  have HQ2 := Lib.hid q2
                  have HO2 := Lib.hid o2
                  have HB6 : Hid (Below w3.heap.size w3 w6) := Lib.hid ((HB4.out.trans (HBX.out.mono HM3.out)).trans b2)
                  clear q2 o2 b2
                  go_wp2_with (at_builtin; go_must (refine Lib.wpList_append_run _ rfl _ _ _ _ rfl _ _ rfl rfl _ _ HQ2.out ?_))
                  go_meet
                  exact ⟨0, _, by omega, rfl, bad_row HO2.out HP.out.1, HB6.out⟩
                · obtain ⟨v2, w6, q2, o2, b2⟩ := app_seen (w := (w4.alloc (.cells #[.int .i64 xq, .int .i64 xa, .int .i64 xb, .int .i64 xd] 75)).alloc (.cells #[.int .i64 xq, .int .i64 xa, .int .i64 xb, .int .i64 xd] 75)) (M := w3.heap.size) (Y := [⟨xq, xa, xb, xd⟩]) (by simp; have := HM3.out; omega) ((HO1'.out.alloc _).alloc _) (src_one w4 (.cells #[.int .i64 xq, .int .i64 xa, .int .i64 xb, .int .i64 xd] 75) #[.int .i64 xq, .int .i64 xa, .int .i64 xb, .int .i64 xd] 75 4 rfl (seen_one' ⟨xq, xa, xb, xd⟩)) (by omega) (by omega)
                  have hb6 : Below w3.heap.size w3 w6 := ((HB4.out.trans (HBX.out.mono HM3.out)).alloc (by simp; have := HM3.out; omega) _).trans b2
                  obtain ⟨v3, w7, q3, o3, b3⟩ := app_seen (w := w6) (M := w3.heap.size) hb6.size o2 (sub_src (a := k) (m := L - k) (c' := cr - k) (own_below HLROW.out hb6) HL.out (by omega)) (by omega) (by omega)
                  have HQ2 := Lib.hid q2
                  have HQ3 := Lib.hid q3
                  have HO3 := Lib.hid o3
                  have HB7 : Hid (Below w3.heap.size w3 w7) := Lib.hid (hb6.trans b3)
                  clear q2 o2 b2 q3 o3 b3 hb6
                  go_upto_region 39 with (at_builtin; go_must (refine Lib.wpList_append_run _ rfl _ _ _ _ rfl _ _ rfl rfl _ _ HQ2.out ?_))
                  go_wp2_with (at_builtin; go_must (refine Lib.wpList_append_run _ rfl _ _ _ _ rfl _ _ rfl rfl _ _ HQ3.out ?_))
                  go_meet
                  exact ⟨1, _, by omega, rfl, bad_row HO3.out (by rw [HP.out.2.1, HXE.out]), HB7.out⟩
                · obtain ⟨v2, w6, q2, o2, b2⟩ := app_seen (w := (w4.alloc (.cells #[.int .i64 xq, .int .i64 xa, .int .i64 xb, .int .i64 (xd + 1)] 75)).alloc (.cells #[.int .i64 xq, .int .i64 xa, .int .i64 xb, .int .i64 (xd + 1)] 75)) (M := w3.heap.size) (Y := [⟨xq, xa, xb, xd + 1⟩]) (by simp; have := HM3.out; omega) ((HO1'.out.alloc _).alloc _) (src_one w4 (.cells #[.int .i64 xq, .int .i64 xa, .int .i64 xb, .int .i64 (xd + 1)] 75) #[.int .i64 xq, .int .i64 xa, .int .i64 xb, .int .i64 (xd + 1)] 75 4 rfl (seen_one' ⟨xq, xa, xb, xd + 1⟩)) (by omega) (by omega)
                  have hb6 : Below w3.heap.size w3 w6 := ((HB4.out.alloc HM3.out _).alloc (by simp; have := HM3.out; omega) _).trans b2
                  obtain ⟨v3, w7, q3, o3, b3⟩ := app_seen (w := w6) (M := w3.heap.size) hb6.size o2 (sub_src (a := k + 1) (m := L - (k + 1)) (c' := cr - (k + 1)) (own_below HLROW.out hb6) HL.out (by omega)) (by omega) (by omega)
                  have HQ2 := Lib.hid q2
                  have HQ3 := Lib.hid q3
                  have HO3 := Lib.hid o3
                  have HB7 : Hid (Below w3.heap.size w3 w7) := Lib.hid (hb6.trans b3)
                  obtain ⟨hxd0, hxd1⟩ := HXD.out
                  clear q2 o2 b2 q3 o3 b3 hb6
                  go_upto_region 43 with (at_builtin; go_must (refine Lib.wpList_append_run _ rfl _ _ _ _ rfl _ _ rfl rfl _ _ HQ2.out ?_))
                  go_wp2_with (at_builtin; go_must (refine Lib.wpList_append_run _ rfl _ _ _ _ rfl _ _ rfl rfl _ _ HQ3.out ?_))
                  go_meet
                  exact ⟨2, _, by omega, rfl, bad_row HO3.out (by rw [HP.out.2.2.1]), HB7.out⟩
                · have hy := fun c (hc : c < 4) => (HLROW4.out.cellAt ((k + 1) * 4 + c) (by omega)).trans (scells_get S (k + 1) c (by rw [HL.out]; omega) hc)
                  generalize hyk : S.getD (k + 1) default = yk at *
                  have HYE := Lib.hid hyk
                  obtain ⟨yq, ya, yb, yd⟩ := yk
                  have ha4 : ∀ c, (w4.alloc (.cells #[.int .i64 xq, .int .i64 xa, .int .i64 xb, .int .i64 xd] 75)).cell? ⟨gl, (k + 1) * 4 + c, none⟩ = w4.cell? ⟨gl, (k + 1) * 4 + c, none⟩ := fun c => by
                    have h1 := (HLROW4.out.lt gl rfl).2
                    exact (((Below.refl w4.heap.size w4).alloc (Nat.le_refl _) (.cells #[.int .i64 xq, .int .i64 xa, .int .i64 xb, .int .i64 xd] 75)).cell (p := ⟨gl, (k + 1) * 4 + c, none⟩) h1)
                  have y0 : (w4.alloc (.cells #[.int .i64 xq, .int .i64 xa, .int .i64 xb, .int .i64 xd] 75)).cell? ⟨gl, (k + 1) * 4, none⟩ = some (.int .i64 yq) := (ha4 0).trans (hy 0 (by omega))
                  have y1 : (w4.alloc (.cells #[.int .i64 xq, .int .i64 xa, .int .i64 xb, .int .i64 xd] 75)).cell? ⟨gl, (k + 1) * 4 + 1, none⟩ = some (.int .i64 ya) := (ha4 1).trans (hy 1 (by omega))
                  have y2 : (w4.alloc (.cells #[.int .i64 xq, .int .i64 xa, .int .i64 xb, .int .i64 xd] 75)).cell? ⟨gl, (k + 1) * 4 + 2, none⟩ = some (.int .i64 yb) := (ha4 2).trans (hy 2 (by omega))
                  have y3 : (w4.alloc (.cells #[.int .i64 xq, .int .i64 xa, .int .i64 xb, .int .i64 xd] 75)).cell? ⟨gl, (k + 1) * 4 + 3, none⟩ = some (.int .i64 yd) := (ha4 3).trans (hy 3 (by omega))
                  obtain ⟨v2, w6, q2, o2, b2, keep⟩ := app_seen2 (w := (w4.alloc (.cells #[.int .i64 xq, .int .i64 xa, .int .i64 xb, .int .i64 xd] 75)).alloc (.cells #[.int .i64 yq, .int .i64 ya, .int .i64 yb, .int .i64 yd] 75)) (M := w3.heap.size) (Y := [⟨yq, ya, yb, yd⟩]) (by simp; have := HM3.out; omega) ((HO1'.out.alloc _).alloc _) (src_one w4 (.cells #[.int .i64 xq, .int .i64 xa, .int .i64 xb, .int .i64 xd] 75) #[.int .i64 yq, .int .i64 ya, .int .i64 yb, .int .i64 yd] 75 4 rfl (seen_one' ⟨yq, ya, yb, yd⟩)) (by omega) (by omega)
                  have hb6 : Below w3.heap.size w3 w6 := ((HB4.out.trans (HBX.out.mono HM3.out)).alloc (by simp; have := HM3.out; omega) _).trans b2
                  have hx6 : w6.heap[w4.heap.size]? = some (.cells #[.int .i64 xq, .int .i64 xa, .int .i64 xb, .int .i64 xd] 75 (0, 0)) := by
                    refine (keep w4.heap.size (by simp; omega) ?_).trans ((Below.heap_alloc _ _ _ (by simp)).trans HXC.out)
                    intro e
                    have := (HO1'.out.lt _ e).2
                    omega
                  have e0 := (cell_of hx6 0).trans rfl
                  have e1 := (cell_of hx6 1).trans rfl
                  have e2 := (cell_of hx6 2).trans rfl
                  have e3 := (cell_of hx6 3).trans rfl
                  obtain ⟨v3, w7, q3, o3, b3⟩ := app_seen (w := w6.alloc (.cells #[.int .i64 xq, .int .i64 xa, .int .i64 xb, .int .i64 xd] 75)) (M := w3.heap.size) (Y := [⟨xq, xa, xb, xd⟩]) (by simp; have := hb6.size; omega) (o2.alloc _) (src_one0 w6 #[.int .i64 xq, .int .i64 xa, .int .i64 xb, .int .i64 xd] 75 4 rfl (seen_one' ⟨xq, xa, xb, xd⟩)) (by omega) (by omega)
                  have hb7 : Below w3.heap.size w3 w7 := (hb6.alloc hb6.size _).trans b3
                  rcases Nat.lt_or_ge (k + 2) cr with hcap | hcap
                  · obtain ⟨v4, w8, q4, o4, b4⟩ := app_seen (w := w7) (M := w3.heap.size) hb7.size o3 (sub_src (a := k + 2) (m := L - (k + 2)) (c' := cr - (k + 2)) (own_below HLROW.out hb7) HL.out (by omega)) (by omega) (by omega)
                    have HQ2 := Lib.hid q2
                    have HQ3 := Lib.hid q3
                    have HQ4 := Lib.hid q4
                    have HO4 := Lib.hid o4
                    have HB8 : Hid (Below w3.heap.size w3 w8) := Lib.hid (hb7.trans b4)
                    clear q2 o2 b2 q3 o3 b3 q4 o4 b4 hb6 hb7 hx6 keep ha4 hy hyk
                    go_upto_region 46 with (at_builtin; go_must (refine Lib.wpList_append_run _ rfl _ _ _ _ rfl _ _ rfl rfl _ _ HQ2.out ?_))
                    go_upto_region 47 with (at_builtin; go_must (refine Lib.wpList_append_run _ rfl _ _ _ _ rfl _ _ rfl rfl _ _ HQ3.out ?_))
                    go_wp2_with (at_builtin; go_must (refine Lib.wpList_append_run _ rfl _ _ _ _ rfl _ _ rfl rfl _ _ HQ4.out ?_))
                    go_meet
                    exact ⟨3, _, by omega, rfl, bad_row HO4.out (by rw [HP.out.2.2.2, HXE.out]), HB8.out⟩
                  · obtain rfl : L = k + 2 := by omega
                    obtain rfl : cr = k + 2 := by omega
                    obtain ⟨v4, w8, q4, o4, b4⟩ := app_seen (w := w7) (M := w3.heap.size) hb7.size o3 (Y := []) (m := 0) (x := .slice (some ⟨gl, 0, none⟩) (k + 2 - (k + 2)) (k + 2 - (k + 2))) (by rw [Nat.sub_self]; exact ⟨rfl, (by intro u hu; cases hu), .inr ⟨_, _, rfl, by intro j u hu; cases hu⟩⟩) (by omega) (by omega)
                    have HQ2 := Lib.hid q2
                    have HQ3 := Lib.hid q3
                    have HQ4 := Lib.hid q4
                    have HO4 := Lib.hid o4
                    have HB8 : Hid (Below w3.heap.size w3 w8) := Lib.hid (hb7.trans b4)
                    clear q2 o2 b2 q3 o3 b3 q4 o4 b4 hb6 hb7 hx6 keep ha4 hy hyk
                    go_upto_region 46 with (at_builtin; go_must (refine Lib.wpList_append_run _ rfl _ _ _ _ rfl _ _ rfl rfl _ _ HQ2.out ?_))
                    go_upto_region 47 with (at_builtin; go_must (refine Lib.wpList_append_run _ rfl _ _ _ _ rfl _ _ rfl rfl _ _ HQ3.out ?_))
                    go_wp2_with (at_builtin; go_must (refine Lib.wpList_append_run _ rfl _ _ _ _ rfl _ _ rfl rfl _ _ HQ4.out ?_))
                    go_meet
                    exact ⟨3, _, by omega, rfl, bad_row HO4.out (by rw [HP.out.2.2.2, HXE.out, Nat.sub_self, List.take_zero]), HB8.out⟩
              case rest =>
                obtain ⟨c, B, hc, hB, hbrow, hbl⟩ := hcut
                have hrs := (HR0.out.readers hTl HS3.out (by omega) (by omega) HG0.out).1
                obtain ⟨p0, hp0⟩ := HLRUN.out
                obtain ⟨f0, hf0⟩ := slip_told HGT.out hp0 hk0 (by rw [HL.out]; exact hkL) c ⟨xq, xa, xb, xd + 1⟩ (by rw [HXE.out])
                rw [← hB] at hf0
                have hBl : B.length ≤ L + 1 := by have := slip_length S k ⟨xq, xa, xb, xd + 1⟩ (by rw [HL.out]; exact hkL) c; rw [← hB, HL.out] at this; exact this
                have hBs : Small4 B := by
                  refine small4_mem.2 fun e he => ?_
                  rw [hB] at he
                  have hS := small4_mem.1 HSM.out
                  rcases slip_mem (by rw [HL.out]; exact hkL) c e he with h | h
                  · exact hS e h
                  · subst h
                    have hm := hS ⟨xq, xa, xb, xd⟩ (by rw [← HXE.out]; simp only [List.getD]; rw [List.getElem?_eq_getElem (by rw [HL.out]; omega), Option.getD_some]; exact List.getElem_mem _)
                    obtain ⟨h1, h2, h3, h4⟩ := hm
                    have := HXD.out
                    refine ⟨h1, h2, h3, ?_⟩
                    unfold In64
                    show _ ≤ xd + 1 ∧ xd + 1 ≤ _
                    omega
                obtain ⟨ba, bc, rfl⟩ : ∃ ba bc, u21 = .slice ba B.length bc := by
                  rcases hbrow.2 with ⟨e, h0⟩ | ⟨g, cap, _, e, _⟩
                  · exact ⟨none, 0, by rw [e, h0]⟩
                  · exact ⟨_, cap, e⟩
                have hqc : Below wq.heap.size wq wc := HB3'.out.trans (hbl.mono HB3'.out.size)
                have hRall : ∀ x, x < j → SeenRow wc (placeAt A r ba x) (placeAt (fun x => runOf T i (g x)) r B x) ∧ Small4 (placeAt (fun x => runOf T i (g x)) r B x) := by
                  intro x hx
                  by_cases e : x = r
                  · subst e
                    rw [placeAt_same, placeAt_same]
                    exact ⟨seen_row rfl hbrow, hBs⟩
                  · rw [placeAt_ne _ _ e, placeAt_ne _ _ e]
                    exact ⟨(hrs.2 x hx).1.below hqc, (hrs.2 x hx).2⟩
                have hrw := hrs.1
                have htt := tot_one (R := fun x => runOf T i (g x)) (S := B) (r := r) (by show B.length ≤ (runOf T i (g r)).length + 1; rw [HS0.out, HL.out]; exact hBl) j
                obtain ⟨f1, hf1⟩ := all_slip HGT.out (R := placeAt (fun x => runOf T i (g x)) r B) hrj (f := f0) (by rw [placeAt_same]; exact hf0)
                have HRALL := Lib.hid hRall
                have HTT : Hid (tot (placeAt (fun x => runOf T i (g x)) r B) j ≤ 300000000000) := Lib.hid (by have h1 := HTM.out; have h2 : tot (placeAt (fun x => runOf T i (g x)) r B) j ≤ _ := htt; omega)
                have HF1 := Lib.hid hf1
                have HQC := Lib.hid hqc
                have HBROW := Lib.hid hbrow
                have HIT0 := Lib.hid HR0.out.its
                have HRROW := Lib.hid HR0.out.row
                have HBLOW : Hid (Below N w wc) := Lib.hid (HB3.out.trans (hbl.mono hn3))
                have hnc : N ≤ wc.heap.size := Nat.le_trans hn3 hbl.size
                obtain ⟨R', hR'⟩ : ∃ R', R' = placeAt (fun x => runOf T i (g x)) r B := ⟨_, rfl⟩
                obtain ⟨A', hA'⟩ : ∃ A', A' = placeAt A r ba := ⟨_, rfl⟩
                obtain ⟨C', hC'⟩ : ∃ C', C' = placeAt C r bc := ⟨_, rfl⟩
                rw [← hR'] at HRALL HTT HF1
                rw [← hA'] at HRALL
                have HSV : Hid (Value.slice (A' r) (R' r).length (C' r) = .slice ba B.length bc) := Lib.hid (by rw [hA', hR', hC', placeAt_same, placeAt_same, placeAt_same])
                have HSO : Hid (∀ x, x ≠ r → Value.slice (A' x) (R' x).length (C' x) = .slice (A x) (runOf T i (g x)).length (C x)) := Lib.hid (fun x hx => by rw [hA', hR', hC', placeAt_ne _ _ hx, placeAt_ne _ _ hx, placeAt_ne _ _ hx])
                clear hR' hA' hC' hrs hp0 hf0 hBs hbrow hqc hRall hrw htt hf1 hbl hB
                generalize B.length = bl at *
                go_wp2_with fail
                go_loopw [23, 24] (fun av iv wr => ∃ x : Nat, x ≤ j ∧ iv = .int .i64 x ∧ OutSt wc A' C' R' x av wr) (fun _ iv _ => j - (intOf iv).toNat)
                case atStart => exact ⟨0, by omega, rfl, ⟨World.ownsRow_nil _ _ _ _, Below.refl _ _⟩⟩
                case round =>
                  obtain ⟨x, hx, rfl, hos⟩ := hrel
                  have hoss := hos.low.size
                  by_cases hxj : x < j
                  · have HOS := Lib.hid hos
                    by_cases hxr : x = r
                    · subst hxr
                      have HOW := Lib.hid (hos.row.alloc (.cells #[.slice ba bl bc] 56))
                      have HSX := Lib.hid (src_one0 wr #[.slice ba bl bc] 56 1 rfl (by intro x hx; simp at hx; subst hx; rfl))
                      clear hos
                      go_wp2_with (at_builtin; go_must (refine wpList_append_row rfl (.tmp 208) (.tmp 210) 54 rfl wc.heap.size 56 i56 _ 1 24 Tryd.underlying54 hi56 x0 x1 (by decide) x2 rfl u23 x _ rfl HOW.out 1 [.slice ba bl bc] HSX.out ?l2 ?b2 ?n2 ?_); go_must (case l2 => (unfold maxLen; omega)); go_must (case b2 => omega); go_must (case n2 => (simp; omega)); intro v' w' ha; have HQ := Lib.hid (HOS.out.step (by rw [HSV.out]; exact ha)); clear ha)
                      go_roundw
                      case rel => exact ⟨x + 1, by omega, by go_num, HQ.out⟩
                      case measure => simp [intOf]; omega
                    · have hxr' : ¬ (x : Int) = (r : Int) := by omega
                      have hcl := (HRROW.out.cellAt x (by omega)).trans (show _ = some (Value.slice (A x) (runOf T i (g x)).length (C x)) by simp [hxj])
                      have c2 := ((HQC.out.trans (hos.low.mono HQC.out.size)).cell (p := ⟨gr, x, none⟩) (World.block_lt_of_cell? wq _ hcl)).trans hcl
                      have HSVX := Lib.hid (HSO.out x hxr)
                      generalize A x = ax at *
                      generalize (runOf T i (g x)).length = lx at *
                      generalize C x = cx at *
                      have HOW := Lib.hid (hos.row.alloc (.cells #[.slice ax lx cx] 56))
                      have HSX := Lib.hid (src_one0 wr #[.slice ax lx cx] 56 1 rfl (by intro x hx; simp at hx; subst hx; rfl))
                      clear hos hcl
                      go_wp2_with (at_builtin; go_must (refine wpList_append_row rfl (.tmp 212) (.tmp 217) 54 rfl wc.heap.size 56 i56 _ 1 24 Tryd.underlying54 hi56 x0 x1 (by decide) x2 rfl u23 x _ rfl HOW.out 1 [.slice ax lx cx] HSX.out ?l2 ?b2 ?n2 ?_); go_must (case l2 => (unfold maxLen; omega)); go_must (case b2 => omega); go_must (case n2 => (simp; omega)); intro v' w' ha; have HQ := Lib.hid (HOS.out.step (by rw [HSVX.out]; exact ha)); clear ha)
                      go_roundw
                      case rel => exact ⟨x + 1, by omega, by go_num, HQ.out⟩
                      case measure => simp [intOf]; omega
                  · obtain rfl : x = j := by omega
                    obtain ⟨ra, rc', rfl⟩ : ∃ ra rc', u23 = .slice ra x rc' := by
                      rcases hos.row.2 with ⟨e, h0⟩ | ⟨g, cap, _, e, _⟩
                      · exact ⟨none, 0, by rw [e, h0]⟩
                      · exact ⟨_, cap, e⟩
                    have hrd := hos.readers HRALL.out
                    have hitw := item_row hTl (own_below (own_below HIT0.out HQC.out) hos.low)
                    have HWL : Hid (Below N w wr) := Lib.hid (HBLOW.out.trans (hos.low.mono hnc))
                    have hnw : N ≤ wr.heap.size := Nat.le_trans hnc hos.low.size
                    have H32 := Lib.hid (all_walk ra x rc' A' C' R' io i ic T wr hrd (by omega) HTT.out hitw HS3.out hTl (by omega))
                    have hFl := allF_len R' x T
                    have HTA := Lib.hid (toldAt_all ⟨_, HF1.out⟩)
                    have htt := HTT.out
                    clear hos hrd hitw
                    generalize allF R' x T = F at *
                    have hFn : F.length ≤ 4000000000000 := by omega
                    clear hFl htt
                    generalize wr = w9 at *
                    go_wp2_with fail
                    refine H32.out.mono ?_
                    rintro e w10 ⟨v10, rfl, hr10, hb10⟩
                    obtain ⟨fa, fc', rfl⟩ : ∃ fa fc', v10 = .slice fa F.length fc' := by
                      rcases hr10.2 with ⟨e, h0⟩ | ⟨g, cap, _, e, _⟩
                      · exact ⟨none, 0, by rw [e, h0]⟩
                      · exact ⟨_, cap, e⟩
                    have HR10 := Lib.hid hr10
                    have HB10 : Hid (Below N w w10) := Lib.hid (HWL.out.trans (hb10.mono hnw))
                    have HTS : Hid (∀ y, y < F.length → ∃ f, (fcells F)[y * 5 + 1]? = some (.int .i64 f) ∧ toldAt F r (y + 1) = (toldAt F r y || f == (r : Int))) := Lib.hid (fun y hy => told_step hy)
                    have HT0 := Lib.hid (toldAt_zero F r)
                    clear hr10 hb10
                    generalize hfl : F.length = fl at *
                    clear hfl
                    go_wp2_with fail
                    go_loopw [26, 27] (fun tv iv wr => ∃ y : Nat, y ≤ fl ∧ iv = .int .i64 y ∧ tv = .bool (toldAt F r y) ∧ wr = w10) (fun _ iv _ => fl - (intOf iv).toNat)
                    case atStart => exact ⟨0, by omega, rfl, by rw [HT0.out], rfl⟩
                    case round =>
                      obtain ⟨y, hy, rfl, rfl, rfl⟩ := hrel
                      by_cases hyl : y < fl
                      · obtain ⟨fr, hfc, hts⟩ := HTS.out y hyl
                        obtain ⟨gf, rfl⟩ : ∃ gf, fa = some ⟨gf, 0, none⟩ := by
                          rcases HR10.out.2 with ⟨e, h0⟩ | ⟨g, cap, _, e, _⟩
                          · omega
                          · cases e; exact ⟨g, rfl⟩
                        have hcf := (HR10.out.cellAt (y * 5 + 1) (by omega)).trans hfc
                        have HTSY := Lib.hid hts
                        clear hfc hts
                        cases htv : toldAt F r y with
                        | true =>
                          rw [htv] at HTSY
                          clear htv
                          go_wp2_with fail
                          go_roundw
                          case rel => exact ⟨y + 1, by omega, by go_num, by rw [HTSY.out]; rfl, trivial⟩
                          case measure => simp [intOf]; omega
                        | false =>
                          rw [htv, Bool.false_or] at HTSY
                          clear htv
                          by_cases hfr : fr = (r : Int)
                          · subst hfr
                            go_wp2_with fail
                            go_roundw
                            case rel => exact ⟨y + 1, by omega, by go_num, by rw [HTSY.out]; simp, trivial⟩
                            case measure => simp [intOf]; omega
                          · have hfr' : decide (fr = (r : Int)) = false := by simpa using hfr
                            go_wp2_with fail
                            go_roundw
                            case rel => exact ⟨y + 1, by omega, by go_num, by rw [HTSY.out], trivial⟩
                            case measure => simp [intOf]; omega
                      · obtain rfl : y = fl := by omega
                        rw [HTA.out]
                        go_wp2_with fail
                        go_ret
                        exact ⟨rfl, by rw [HN.out]; exact HB10.out⟩
end Go.Proofs.YtfcaebceklhbkaaDoor
