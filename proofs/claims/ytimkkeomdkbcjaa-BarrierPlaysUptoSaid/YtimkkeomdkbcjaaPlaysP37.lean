/-
  Merged out of: RefU RefS. No condition of its own.
-/
import Derived.Test.YtimkkeomdkbcjaaPlaysP35
import Derived.Test.YtimkkeomdkbcjaaPlaysP36
import Derived.Deep.RegionLaw
import Derived.Deep.RegionWith
import Derived.Deep.DeepCutAuto
import Derived.Test.YtimkkeomdkbcjaaPlaysP34
set_option linter.unusedVariables false
set_option linter.unusedSimpArgs false
/-
  The document's machine: Play (f18), walked. No condition of its own.
-/
namespace Go.Proofs.Ytimkkeomdkbcjaa
open Go.Conc Go.RowKit
open Go.ConcN renaming upd → updN
open Go.ConcN (upd_ne upd_same)
def StepC : Prop := ∀ (w0 w : World) (N mb n j : Nat) (vw vth : Value) (tb : Nat → Nat) (vo va : Nat → Value) (ow : Nat → Nat) (ws : List Int) (al : Bool) (T : Nat → RT), RMem w0 N mb n vw vth tb vo va ow ws al T w → j < n → RI ws.length (T j) → (T j).i < (T j).ops.length → ws.length ≤ 100000 →
    Calls Try.prog 38 #[.pointer (some ⟨mb, 0, none⟩), .pointer (some ⟨tb j, 0, none⟩)] w (DoneStep w0 N mb n vw vth tb vo (stepMS ws.length ⟨ws, al, T⟩ j) w)
structure TrSmall (T : Tr) : Prop where
  ans : T.ans.length ≤ 1000000000
  ord : T.ord.length ≤ 1000000000
  st : T.st.length ≤ 1000000000
  each : ∀ l ∈ T.ans, l.length ≤ 1000000000
def DonePlay (ws : List Int) (LL : List (List OpD)) (sch : List Int) (most : Int) (w : World) (e : Ending) (w' : World) : Prop :=
  ∃ tv, e = .returned tv ∧ TrIn w' tv (trB ws LL sch most) ∧ Below w.heap.size w w' ∧ TrSmall (trB ws LL sch most)
theorem startS_next {k n : Nat} {ws : List Int} {L : Nat → List OpD} {j : Nat} (hj : j < n) : updN (startS k n ws L j).T j (beginT k ((startS k n ws L j).T j)) = (startS k n ws L (j + 1)).T := by
  funext i
  have ej : (startS k n ws L j).T j = newT (L j) := by
    show (if j < j then _ else if j < n then newT (L j) else _) = _
    rw [if_neg (by omega), if_pos hj]
  rw [ej]
  show _ = (if i < j + 1 then beginT k (newT (L i)) else if i < n then newT (L i) else newT [])
  by_cases e : i = j
  · subst e
    rw [upd_same, if_pos (by omega)]
  · rw [upd_ne _ _ e]
    show (if i < j then beginT k (newT (L i)) else if i < n then newT (L i) else newT []) = _
    by_cases q : i < j
    · rw [if_pos q, if_pos (by omega)]
    · rw [if_neg q, if_neg (show ¬ i < j + 1 by omega)]
theorem startS_zero {k n : Nat} {ws : List Int} {LL : List (List OpD)} : (startS k n ws (opsLL LL) 0).T = T0 LL n := by
  funext i
  show (if i < 0 then beginT k (newT (opsLL LL i)) else if i < n then newT (opsLL LL i) else newT []) = _
  rw [if_neg (by omega)]
  rfl
theorem take_ms {k n j : Nat} {S : MS} (h : MI k n S) (hj : j < n) (hlt : (S.T j).i < (S.T j).ops.length) : stepMS (S.ws.take k).length ⟨S.ws.take k, S.al, S.T⟩ j = ⟨(stepMS k S j).ws.take k, (stepMS k S j).al, (stepMS k S j).T⟩ := by
  have hl : (S.ws.take k).length = k := by rw [List.length_take]; have := h.ws; omega
  have e := step_take (al := S.al) h.ws ((h.th j hj).st hlt)
  rw [hl]
  unfold stepMS
  simp only [e]
theorem take_snoc {ws : List Int} {j : Nat} (h : j < ws.length) : ws.take (j + 1) = ws.take j ++ [ws.getD j 0] := by
  rw [List.take_add_one, List.getElem?_eq_getElem h, List.getD_eq_getElem?_getD, List.getElem?_eq_getElem h]
  rfl
theorem ownsRow_mono {w : World} {B B' e sz n : Nat} {v : Value} {xs : List Value} (h : w.ownsRow B e sz v n xs) (hB : B' ≤ B) : w.ownsRow B' e sz v n xs := by
  obtain ⟨h1, h2⟩ := h
  refine ⟨h1, ?_⟩
  rcases h2 with h2 | ⟨g, cap, cur, e1, q1, q2⟩
  · exact .inl h2
  · exact .inr ⟨g, cap, cur, e1, Nat.le_trans hB q1, q2⟩
theorem TuB.mono {w : World} {B B' ub : Nat} {vs vo : Value} {u : TU} (h : TuB B ub vs vo u w) (hB : B' ≤ B) : TuB B' ub vs vo u w :=
  ⟨h.blk, Nat.le_trans hB h.lo, ownsRow_mono h.rowS hB, ownsRow_mono h.rowO hB, h.ne⟩
theorem slice3 {w : World} {base e sz n : Nat} {v : Value} {xs : List Value} (h : w.ownsRow base e sz v n xs) : ∃ p l c, v = .slice p l c := by
  obtain ⟨p, c, e⟩ := slice_of h
  exact ⟨p, n, c, e⟩
def finW (w : World) (b : Nat) (x y z u : Value) : World := (((w.setCell ⟨b, 0, none⟩ x).setCell ⟨b, 1, none⟩ y).setCell ⟨b, 2, none⟩ z).setCell ⟨b, 3, none⟩ u
theorem res_kept {w1 w8 w10 w11 : World} {N NT : Nat} {o : Obj} (R0 : w1.heap[NT]? = some o) (hNT : NT < N) (hl : Below N w1 w8) (hB : Below w8.heap.size w8 w10) (hB11 : Below w10.heap.size w10 w11) : w11.heap[NT]? = some o := by
  have e8 := (hl.block NT hNT).trans R0
  have e10 := (hB.block NT (Array.getElem?_eq_some_iff.1 e8).1).trans e8
  exact (hB11.block NT (Array.getElem?_eq_some_iff.1 e10).1).trans e10
theorem play_fin {w0 w1 w8 w10 w11 : World} {N mb n ub base NT B1 B2 : Nat} {vm vth vs' vord v75 vst : Value} {tb : Nat → Nat} {vo va : Nat → Value} {ow : Nat → Nat} {W : List Int} {al st : Bool} {T : Nat → RT} {u' : TU}
    (HM : RMem w1 N mb n vm vth tb vo va ow W al T w8) (HU : TuB base ub vs' vord u' w8) (hB : Below w8.heap.size w8 w10) (hrow : w10.ownsRow B2 2 1 vst (W.length + 1) (intsL (W ++ [bit al]))) (hB11 : Below w10.heap.size w10 w11) (hr75 : w11.ownsRow B1 75 1 v75 n ((List.range n).map va))
    (R0 : w1.heap[NT]? = some (.cells #[.slice none 0 0, .slice none 0 0, .slice none 0 0, .bool false] 63 (0, 0))) (hNT : N = NT + 1) (h0 : w0.heap.size = NT) (hlow : Below w0.heap.size w0 w1) :
    (finW w11 NT v75 vord vst (.bool st)).heap[NT]? = some (.cells #[v75, vord, vst, .bool st] 63 (0, 0)) ∧ TrIn (finW w11 NT v75 vord vst (.bool st)) (.agg #[v75, vord, vst, .bool st]) ⟨(List.range n).map fun i => (T i).ans, u'.ord, W ++ [bit al], st⟩ ∧ Below w0.heap.size w0 (finW w11 NT v75 vord vst (.bool st)) := by
  have ER := res_kept R0 (by omega) HM.low hB hB11
  obtain ⟨x1, x2, x3⟩ := set4 (x := v75) (y := vord) (z := vst) (u := .bool st) ER
  have KF : KeptX [63] w11 (finW w11 NT v75 vord vst (.bool st)) := fun b cs e hb he => (x2 b fun z => he (by
    rw [z, ER] at hb
    simp at hb
    rw [← hb.2]; simp)).trans hb
  have K11 : KeptX [63] w10 w11 := KeptX.below (N := 0) hB11
  have K10 : KeptX [63] w8 w10 := KeptX.below (N := 0) hB
  refine ⟨x1, tr_in (B2 := B2) HM HU ((K10.trans K11).trans KF) (KF.row hr75 (by simp)) (xs := W ++ [bit al]) ?_ st, ?_⟩
  · have := KF.row (K11.row hrow (by simp)) (by simp)
    rw [List.length_append]
    exact this
  · have b1 : Below w0.heap.size w1 w8 := HM.low.mono (by omega)
    have b2 : Below w0.heap.size w8 w10 := hB.mono (by have := HM.low.size; have := HM.nw; omega)
    have b3 : Below w0.heap.size w10 w11 := hB11.mono (by have := HM.low.size; have := HM.nw; have := hB.size; omega)
    have b4 := hlow.trans (b1.trans (b2.trans b3))
    exact (((b4.setCell (p := ⟨NT, 0, none⟩) (by show w0.heap.size ≤ NT; omega) _).setCell (p := ⟨NT, 1, none⟩) (by show w0.heap.size ≤ NT; omega) _).setCell (p := ⟨NT, 2, none⟩) (by show w0.heap.size ≤ NT; omega) _).setCell (p := ⟨NT, 3, none⟩) (by show w0.heap.size ≤ NT; omega) _
set_option maxRecDepth 100000 in
set_option maxHeartbeats 8000000 in
theorem refPlay_walk (hbeg : BeginC) (hstep : StepC) {w : World} {ws : List Int} {LL : List (List OpD)} {sch : List Int} {vw vt vs : Value} (hW : IntsIn w vw ws) (hT : ThrIn w vt LL) (hS : IntsIn w vs sch) (hnil : NilV vs) (hws : ws.length ≤ 1000000000) (hLL : LL.length ≤ 1000000000) (hops : ∀ L ∈ LL, L.length ≤ 1000000000) (hsch : sch.length ≤ 1048576) (most : Int) :
    Calls Try.prog 18 #[vw, vt, vs, .int .i64 most] w (DonePlay ws LL sch most w) := by
  obtain ⟨i2, hi2, z1, z2, z3⟩ := info_parts info2
  have R0 := heap_alloc_new w (.cells #[.slice none 0 0, .slice none 0 0, .slice none 0 0, .bool false] 63)
  have B0 : Below w.heap.size w (w.alloc (.cells #[.slice none 0 0, .slice none 0 0, .slice none 0 0, .bool false] 63)) := (Below.refl _ _).alloc (Nat.le_refl _) _
  have S0 : (w.alloc (.cells #[.slice none 0 0, .slice none 0 0, .slice none 0 0, .bool false] 63)).heap.size = w.heap.size + 1 := by simp
  have HT := Lib.hid (threads_walk (hT.keep fun b hb => B0.block b hb) hLL hops)
  have hWk := Lib.hid (show ∀ w', Below w.heap.size w w' → IntsIn w' vw ws from fun w' hb => hW.keep fun b hlt => hb.block b hlt)
  have hSk := Lib.hid (show ∀ w', Below w.heap.size w w' → IntsIn w' vs sch from fun w' hb => hS.keep fun b hlt => hb.block b hlt)
  obtain ⟨_, wp, wc, hvw, _, _⟩ := hW
  obtain ⟨_, sp, sc, hvs, _, _⟩ := hS
  subst hvw
  subst hvs
  clear hT
  replace hnil := Lib.hid hnil
  replace hbeg := Lib.hid hbeg
  replace hstep := Lib.hid hstep
  replace hops := Lib.hid hops
  go_enter Try.func18, Try.ntmps18
  go_upto_region 1 with fail
  generalize w.alloc (.cells #[.slice none 0 0, .slice none 0 0, .slice none 0 0, .bool false] 63) = w1 at *
  generalize hk : min ws.length 65 = k at *
  generalize hn : min LL.length 64 = n at *
  replace R0 := Lib.hid R0
  replace B0 := Lib.hid B0
  go_upto_region 2 with (go_at_call 32; refine HT.out.mono ?_; rintro e w2 ⟨v, rfl, tb, vo, h2⟩; rw [hn] at h2; obtain ⟨tp, tc, rfl⟩ := slice_of h2.row; have R3 := Lib.hid (RMem.start h2 rfl); clear h2)
  generalize w2.alloc (.cells #[.slice none 0 0, .bool false, .slice tp n tc] 85) = w3 at *
  generalize w2.heap.size = mb at *
  generalize hN : w1.heap.size = N at *
  replace hN := Lib.hid hN
  go_wp2_with fail
  go_loopw [10] (fun iv wr => ∃ (j : Nat) (vm : Value), j ≤ k ∧ iv = .int .i64 j ∧ Hid (RMem w1 N mb n vm (.slice tp n tc) tb vo (fun _ => .slice none 0 0) (fun _ => 0) (ws.take j) false (T0 LL n) wr)) (fun iv _ => k - (intOf iv).toNat)
  case atStart => exact ⟨0, _, by omega, rfl, R3⟩
  case round =>
    obtain ⟨j, vm, hj, rfl, HR⟩ := hrel
    have hlen : (ws.take j).length = j := by rw [List.length_take]; omega
    obtain ⟨p, c, rfl⟩ := slice_of HR.out.mv.rowW
    by_cases hlt : j < k
    · have hlw : j < ws.length := by omega
      have hlt' : (j : Int) < (ws.length : Int) := by omega
      have hle' : (j : Int) ≤ 64 := by omega
      have hbw : Below w.heap.size w wr := B0.out.trans (HR.out.low.mono (by have := hN.out; omega))
      obtain ⟨_, wp', wc', ew, _, qw⟩ := hWk.out wr hbw
      injection ew with ew1 ew2 ew3
      subst ew1 ew3
      obtain ⟨b, o, rfl, hcw⟩ := qw (fun z => by rw [z] at hlw; simp at hlw)
      have cw : wr.cell? ⟨b, o + j, none⟩ = some (.int .i64 (ws.getD j 0)) := hcw j _ (by rw [List.getD_eq_getElem?_getD, List.getElem?_eq_getElem hlw]; rfl)
      clear hcw qw
      have b0 : wr.cell? ⟨mb, 0, none⟩ = some (.slice p (ws.take j).length c) := by rw [cellAt HR.out.mv.blk 0]; rfl
      have hsn := Lib.hid (take_snoc hlw)
      generalize ws.getD j 0 = x at *
      generalize ws.take j = l at *
      have b0' : (wr.alloc (.cells #[.int .i64 x] 2)).cell? ⟨mb, 0, none⟩ = some (.slice p l.length c) := (World.cell?_of_block (w := wr) (Below.heap_alloc _ _ _ (World.block_lt_of_cell? wr _ b0))).trans b0
      have cw' : (wr.alloc (.cells #[.int .i64 x] 2)).cell? ⟨b, o + j, none⟩ = some (.int .i64 x) := (World.cell?_of_block (w := wr) (Below.heap_alloc _ _ _ (World.block_lt_of_cell? wr _ cw))).trans cw
      have HD := HR.out.drewM
      have HOW := HD.mv.rowW.alloc (.cells #[.int .i64 x] 2)
      have HSX := src_one2 wr.drew (.int .i64 x) 2 rfl
      have hsz := HR.out.size
      obtain ⟨v', w4, hrun, ha⟩ := run_append_row (P := Try.prog) (wr.drew.alloc (.cells #[.int .i64 x] 2)) N 28 28 2 i2 _ 8 Try.underlying28 hi2 z1 z2 z3 (by rfl) (.slice p l.length c) l.length _ HOW (.slice (some ⟨wr.heap.size, 0, none⟩) 1 1) 1 [.int .i64 x] HSX (by unfold maxLen; omega) (by omega) (by show N ≤ (wr.alloc (.cells #[.int .i64 x] 2)).heap.size; simp; omega)
      have HRUN : Hid ((Builtin.append_ #[28, 28] 28 #[.slice p l.length c, .slice (some ⟨wr.heap.size, 0, none⟩) 1 1]).run Try.prog (wr.alloc (.cells #[.int .i64 x] 2)).drew = .ok v' w4) := Lib.hid hrun
      obtain ⟨hb2, HM⟩ := HD.more ha
      obtain ⟨p2, c2, hv2⟩ := slice_of HM.mv.rowW
      have hv3 : v' = .slice p2 (j + 1) c2 := hv2.trans (by rw [List.length_append, hlen]; rfl)
      subst hv3
      clear hv2
      have d0 : w4.cell? ⟨mb, 0, none⟩ = some (.slice p l.length c) := by rw [cellAt hb2 0]; rfl
      have y0 := freeAt hb2 0
      have e2 : IntKind.i64.wrap ((j : Int) + 1) = ((j + 1 : Nat) : Int) := by rw [IntKind.wrap_i64]; omega
      rw [← hsn.out] at HM
      rw [hlen] at *
      clear hrun ha HOW HSX HD hb2 hbw
      replace HM := Lib.hid HM
      go_upto_region 5 with fail
      go_region_law (refine step_append_run (by rfl) _ _ 28 28 (by rfl) (.slice p j c) (.slice (some ⟨wr.heap.size, 0, none⟩) 1 1) (by rfl) (by rfl) HRUN.out ?_)
      all_goals
        go_wp2_with fail
        refine ⟨⟨j + 1, .slice p2 (j + 1) c2, by omega, by rw [Int.natCast_add]; rfl, HM⟩, by simp [intOf]; omega⟩
    · obtain rfl : k = j := by omega
      have key : Hid True := Lib.hid trivial
      have hcond : (¬ (k : Int) < (ws.length : Int)) ∨ ((k : Int) < (ws.length : Int) ∧ ¬ (k : Int) ≤ 64) := by omega
      rcases hcond with hc1 | ⟨hc1, hc2⟩
      all_goals
        go_upto_region 6 with fail
        go_wp2_with fail
        go_loopw [11] (fun iv wq => ∃ (j : Nat) (va : Nat → Value) (ow : Nat → Nat), j ≤ n ∧ iv = .int .i64 j ∧ Hid (RMem w1 N mb n (.slice p (ws.take k).length c) (.slice tp n tc) tb vo va ow (ws.take k) false (startS k n ws (opsLL LL) j).T wq)) (fun iv _ => n - (intOf iv).toNat)
        case atStart => exact ⟨0, _, _, by omega, rfl, by rw [startS_zero]; exact HR⟩
        case round =>
          obtain ⟨j, va, ow, hj, rfl, HQ⟩ := hrel
          have m2 : wr.cell? ⟨mb, 2, none⟩ = some (.slice tp n tc) := by rw [cellAt HQ.out.mv.blk 2]; rfl
          have hn64 : n ≤ 64 := by omega
          by_cases hlt : j < n
          · have hlt' : (j : Int) < (n : Int) := by omega
            obtain ⟨tp', tc', e1, _, kk⟩ := row_cells HQ.out.row
            injection e1 with e1 e2 e3
            subst e1 e3
            obtain ⟨g, cc, rfl, _, hg, hgc⟩ := kk (by omega)
            have p0 : wr.cell? ⟨g, j, none⟩ = some (.pointer (some ⟨tb j, 0, none⟩)) := by rw [cellAt hg j, hgc j hlt]; simp [hlt]
            clear kk hg hgc
            have eT : (startS k n ws (opsLL LL) j).T j = newT (opsLL LL j) := by
              show (if j < j then beginT k (newT (opsLL LL j)) else if j < n then newT (opsLL LL j) else newT []) = _
              rw [if_neg (by omega), if_pos hlt]
            have HB := Lib.hid (hbeg.out _ _ _ _ _ _ _ _ _ _ _ _ _ HQ.out.mv (HQ.out.th j hlt) HQ.out.size (by rw [eT]; exact opsLL_len LL j) (by rw [eT]; exact Nat.zero_le _) (by rw [eT]; exact Nat.zero_le _) (by omega))
            have e2 : IntKind.i64.wrap ((j : Int) + 1) = ((j + 1 : Nat) : Int) := by rw [IntKind.wrap_i64]; omega
            replace eT := Lib.hid eT
            go_wp2_with (go_at_call 33; refine HB.out.mono ?_; rintro e w5 ⟨rfl, ow5, va5, g5⟩; have G5 := Lib.hid (HQ.out.step hlt g5); clear g5)
            have h := G5.out
            rw [show beginT (ws.take k).length = beginT k by rw [hlen], startS_next hlt] at h
            exact ⟨⟨j + 1, _, _, by omega, by rw [Int.natCast_add]; rfl, Lib.hid h⟩, by simp [intOf]; omega⟩
          · obtain rfl : n = j := by omega
            have hbw : Below w.heap.size w wr := B0.out.trans (HQ.out.low.mono (by have := hN.out; omega))
            have HNT := Lib.hid (newTurn_walk (hSk.out wr hbw) hnil.out hsch most)
            clear hbw
            go_wp2_with (go_at_call 34; refine HNT.out.mono ?_; rintro e w7 ⟨ub, vs', rfl, hge, hU, hB⟩; have HU7 := Lib.hid hU; have HB7 := Lib.hid hB; clear hU hB)
            have R7 := Lib.hid (HQ.out.kept (X := []) (KeptX.below (N := 0) HB7.out) (by simp) (HQ.out.low.trans (HB7.out.mono HQ.out.size)))
            have hRun0 := Lib.hid (run_start (k := k) (n := n) (mo := (min (max most 0) 1048576).toNat) (ws := ws) (sch := sch) (L := opsLL LL) (by omega) (fun i _ => opsLL_len LL i))
            have hmo : (((min (max most 0) 1048576).toNat : Nat) : Int) = min (max most 0) 1048576 := by omega
            have hmo2 : (min (max most 0) 1048576).toNat ≤ 1048576 := by omega
            have hGe : Hid (gameB k ws LL sch most = playO n (min (max most 0) 1048576).toNat (fun i => opsT k i (opsLL LL i)) ⟨fun j => ws.getD j 0, false, fun _ => []⟩ sch) := Lib.hid (by unfold gameB; rw [hn]; rfl)
            have HU8 : Hid (TuB wr.heap.size ub vs' (.slice none 0 0) ⟨sch, 0, 0, (((min (max most 0) 1048576).toNat : Nat) : Int), [], false⟩ w7) := by rw [hmo]; exact HU7
            clear hmo HU7
            generalize (min (max most 0) 1048576).toNat = mo at *
            generalize playO n mo (fun i => opsT k i (opsLL LL i)) ⟨fun j => ws.getD j 0, false, fun _ => []⟩ sch = G at *
            have HNB : N ≤ wr.heap.size := HQ.out.size
            clear HNT HB7 HQ
            generalize wr.heap.size = BU at *
            clear m2
            go_loopw [13] (fun _ wq => ∃ (va : Nat → Value) (ow : Nat → Nat) (vord : Value) (u : TU) (S : MS), Hid (RMem w1 N mb n (.slice p (ws.take k).length c) (.slice tp n tc) tb vo va ow (S.ws.take k) S.al S.T wq) ∧ Hid (TuB BU ub vs' vord u wq) ∧ Hid (RunI k n mo G sch S u)) (fun _ wq => mo - lenAt wq ub 4)
            case atStart => exact ⟨va, ow, _, _, _, R7, HU8, hRun0⟩
            case round =>
              obtain ⟨va, ow, vord, u, S, HM, HU, HI⟩ := hrel
              have m2 : wr.cell? ⟨mb, 2, none⟩ = some (.slice tp n tc) := by rw [cellAt HM.out.mv.blk 2]; rfl
              have hSZ : BU ≤ wr.heap.size := Nat.le_trans HU.out.lo (Nat.le_of_lt (Array.getElem?_eq_some_iff.1 HU.out.blk).1)
              have HP := Lib.hid (pick_walk (E := fun i => (S.T i).ended) HU.out HM.out.row hn64 hSZ (fun i hi => ⟨_, (HM.out.th i hi).blk, by simp [thC]⟩) (by have := HI.out.ord; omega) (by rw [HI.out.sch]; exact hsch) (by rw [HI.out.sch]; exact HI.out.pos) HI.out.rnd)
              have HL := Lib.hid (lenAt_tu HU.out)
              go_upto_region 12 with (go_at_call 35; refine HP.out.mono ?_; rintro e w8 ⟨r, u', vord', rfl, hpk, hps⟩; have HPK := Lib.hid hpk; have HPS := Lib.hid hps; clear hpk hps)
              have HM8 := Lib.hid (HM.out.kept (X := [120, 3]) HPS.out.kept (by simp) (HM.out.low.trans (HPS.out.low.mono HNB)))
              have m8 : w8.cell? ⟨mb, 2, none⟩ = some (.slice tp n tc) := by rw [cellAt HM8.out.mv.blk 2]; rfl
              clear m2 HP
              by_cases hr : r < 0
              · go_upto_region 13 with fail
                obtain ⟨hG, ho, hstk⟩ := run_end HI.out HPK.out hr
                have hTE := Lib.hid (tr_eq hk hn (hGe.out.trans hG) HI.out.mi.ws)
                rw [hGe.out, ← hstk, ← ho] at hTE
                have hsm : Hid (TrSmall (trB ws LL sch most)) := Lib.hid (by
                  rw [hTE.out]
                  refine ⟨by simp; omega, ?_, ?_, fun l hl => ?_⟩
                  · show u'.ord.length ≤ _
                    rw [ho]
                    have := HI.out.ord
                    omega
                  · show (S.ws.take k ++ [bit S.al]).length ≤ _
                    rw [List.length_append, List.length_take]
                    simp only [List.length_cons, List.length_nil]
                    omega
                  · obtain ⟨i, hi, rfl⟩ := List.mem_map.1 hl
                    have hr := HI.out.mi.th i (List.mem_range.1 hi)
                    have a1 := hr.ans
                    have a2 := hr.i
                    have a3 := hr.ops
                    show ((S.T i).ans).length ≤ _
                    omega)
                obtain ⟨op, oc, hvo⟩ := slice_of HPS.out.tu.rowO
                subst hvo
                have HU8' := Lib.hid (HPS.out.tu.mono HNB)
                have hl2 : (S.ws.take k).length = k := by rw [List.length_take]; have := HI.out.mi.ws; omega
                have HST := stateR_walk HM8.out.drewM.mv (by omega)
                unfold DoneSt at HST
                rw [hl2] at HST
                replace HST := Lib.hid HST
                replace hl2 := Lib.hid hl2
                clear hG ho hstk
                have HTR : Hid (∀ w10, Below w8.drew.heap.size w8.drew w10 → ∀ sp sl sc, Calls Try.prog 36 #[.pointer (some ⟨ub, 0, none⟩), .slice tp n tc, .slice sp sl sc] w10 (DoneTr n va (.slice op u'.ord.length oc) (.slice sp sl sc) u'.stuck w10)) := Lib.hid fun w10 hb sp sl sc => by
                  have hk10 : KeptX [] w8 w10 := KeptX.below (N := 0) ⟨hb.os, hb.tape, hb.output, hb.size, hb.block⟩
                  refine trace_walk (HU8'.out.kept hk10 (by simp) (by simp)) (hk10.row HM8.out.row (by simp)) hn64 fun i hi => ⟨?_, slice3 (HM8.out.th i hi).rowA⟩
                  rw [cellAt (hk10 _ _ _ (HM8.out.th i hi).blk (by simp)) 12]
                  simp [thC]
                have hfin := Lib.hid (fun w10 vst B2 (hB : Below w8.drew.heap.size w8.drew w10) (hrow : w10.ownsRow B2 2 1 vst (k + 1) (intsL (S.ws.take k ++ [bit S.al]))) w11 v75 B1 (hB11 : Below w10.heap.size w10 w11) (hr75 : w11.ownsRow B1 75 1 v75 n ((List.range n).map va)) => play_fin (st := u'.stuck) HM8.out HU8'.out ⟨hB.os, hB.tape, hB.output, hB.size, hB.block⟩ (by rw [hl2.out]; exact hrow) hB11 hr75 R0.out S0 rfl B0.out)
                have hER := Lib.hid (fun w10 w11 (hB : Below w8.drew.heap.size w8.drew w10) (hB11 : Below w10.heap.size w10 w11) => res_kept R0.out (show w.heap.size < N by omega) HM8.out.low ⟨hB.os, hB.tape, hB.output, hB.size, hB.block⟩ hB11)
                rw [hTE.out.symm] at hfin
                go_cut [77] (fun _ wx => ∃ a b c, wx.heap[w.heap.size]? = some (.cells #[a, b, c, .bool u'.stuck] 63 (0, 0)) ∧ TrIn wx (.agg #[a, b, c, .bool u'.stuck]) (trB ws LL sch most) ∧ Below w.heap.size w wx)
                case first =>
                  go_region_with (first
                    | (go_at_call 37; refine HST.out.mono ?_; rintro e w10 ⟨vst, rfl, hrow, hB10⟩; obtain ⟨sp', sc', rfl⟩ := slice_of hrow; have HB10 := Lib.hid hB10; have HROW := Lib.hid hrow; have m10 : w10.cell? ⟨mb, 2, none⟩ = some (.slice tp n tc) := cell_keep (w := w8.drew) (fun b hb => hB10.block b hb) m8; clear hB10 hrow)
                    | (go_at_call 36; refine (HTR.out _ HB10.out _ _ _).mono ?_; rintro e w11 ⟨v75, rfl, hr75, hB11⟩; obtain ⟨p75, c75, rfl⟩ := slice_of hr75; have er := hER.out _ _ HB10.out hB11; have HFIN := Lib.hid (hfin.out _ _ _ HB10.out HROW.out _ _ _ hB11 hr75); have r0 : w11.cell? ⟨w.heap.size, 0, none⟩ = some (.slice none 0 0) := (by rw [cellAt er 0]; rfl); have r1 : w11.cell? ⟨w.heap.size, 1, none⟩ = some (.slice none 0 0) := (by rw [cellAt er 1]; rfl); have r2 : w11.cell? ⟨w.heap.size, 2, none⟩ = some (.slice none 0 0) := (by rw [cellAt er 2]; rfl); have r3 : w11.cell? ⟨w.heap.size, 3, none⟩ = some (.bool false) := (by rw [cellAt er 3]; rfl); have y0 := freeAt er 0; have y1 := freeAt er 1; have y2 := freeAt er 2; have y3 := freeAt er 3; clear hr75 hB11 er))
                  all_goals (go_wp2_with fail; go_meet)
                  all_goals exact ⟨_, _, _, HFIN.out⟩
                case rest =>
                  obtain ⟨a, b, c', x1, hT, hB⟩ := hcut
                  replace hT := Lib.hid hT
                  replace hB := Lib.hid hB
                  go_wp2_with fail
                  refine bodyPost_ret (results_cell_row (fn := Try.f18) (p := 8) (ty := 63) rfl _ _ w.heap.size 63 _ (0, 0) _ rfl x1 Try.underlying63 rfl size63) rfl ?_
                  exact ⟨_, rfl, hT.out, hB.out, hsm.out⟩
              · obtain ⟨t, rfl⟩ : ∃ t : Nat, r = t := ⟨r.toNat, by omega⟩
                have hnx := run_next HI.out HPK.out (by omega)
                rw [Int.toNat_natCast] at hnx
                obtain ⟨ht, hE, HI2, hol⟩ := hnx
                have hlt := (HI.out.mi.th t ht).not_fin hE
                have hl2 : (S.ws.take k).length = k := by rw [List.length_take]; have := HI.out.mi.ws; omega
                have HS := hstep.out w1 w8 N mb n t _ _ tb vo va ow (S.ws.take k) S.al S.T HM8.out ht (by rw [hl2]; exact HI.out.mi.th t ht) hlt (by omega)
                rw [take_ms HI.out.mi ht hlt] at HS
                replace HS := Lib.hid HS
                have ht' : (t : Int) < (n : Int) := by omega
                obtain ⟨tp', tc', e1, _, kk⟩ := row_cells HM8.out.row
                injection e1 with e1 e2 e3
                subst e1 e3
                obtain ⟨g, cc, rfl, _, hg, hgc⟩ := kk (by omega)
                have p0 : w8.cell? ⟨g, t, none⟩ = some (.pointer (some ⟨tb t, 0, none⟩)) := by rw [cellAt hg t, hgc t ht]; simp [ht]
                clear kk hg hgc hl2
                replace HI2 := Lib.hid HI2
                replace hE := Lib.hid hE
                replace hol := Lib.hid hol
                go_wp2_with (go_at_call 38; refine HS.out.mono ?_; rintro e w9 ⟨rfl, ow9, va9, h9, k9⟩; have H9 := Lib.hid h9; have K9 := Lib.hid k9; clear h9 k9)
                have HU9 := HPS.out.tu.kept K9.out (by simp) (by simp)
                refine ⟨⟨va9, ow9, vord', u', stepMS k S t, H9, Lib.hid HU9, HI2⟩, ?_⟩
                have a := lenAt_tu HU9
                have b := HL.out
                have c1 := HI2.out.ord
                have c2 := hol.out
                omega
end Go.Proofs.Ytimkkeomdkbcjaa

/-
  The document's machine: step (f38), walked. No condition of its own.
-/
namespace Go.Proofs.Ytimkkeomdkbcjaa
open Go.Conc Go.RowKit
open Go.ConcN renaming upd → updN
open Go.ConcN (upd_ne upd_same)
set_option maxRecDepth 100000 in
set_option maxHeartbeats 8000000 in
theorem step_walk (hbeg : BeginC) {w0 w : World} {N mb n k j : Nat} {vw vth : Value} {tb : Nat → Nat} {vo va : Nat → Value} {ow : Nat → Nat} {ws : List Int} {al : Bool} {T : Nat → RT} (h : RMem w0 N mb n vw vth tb vo va ow ws al T w) (hj : j < n) (hR : RI k (T j)) (hlt : (T j).i < (T j).ops.length) (hk : ws.length = k) (hlen : ws.length ≤ 100000) :
    Calls Try.prog 38 #[.pointer (some ⟨mb, 0, none⟩), .pointer (some ⟨tb j, 0, none⟩)] w (DoneStep w0 N mb n vw vth tb vo (stepMS k ⟨ws, al, T⟩ j) w) := by
  subst hk
  have HRB := Lib.hid (rb_step (al := al) (Nat.le_refl _) hlt hR).1
  have hst := hR.st hlt
  have hops := hR.ops
  have hans := hR.ans
  clear hR
  obtain ⟨⟨h0, h0'⟩, hst⟩ := hst
  generalize hq : opR (T j).ops (T j).i = q at *
  obtain ⟨pk, pa, pb, pc⟩ := q
  simp only at hst
  have HO1 := Lib.hid (op_at (h.th j hj) hlt hq)
  replace hq := Lib.hid hq
  replace h := Lib.hid h
  replace hbeg := Lib.hid hbeg
  go_enter Try.func38, Try.ntmps38
  go_upto_region 1 with (go_at_call 48; refine HO1.out.mono ?_; rintro e w1 ⟨rfl, g1⟩; have G1 := Lib.hid g1; clear g1)
  have E2 := heap_alloc_new w1 (.cells #[.int .i64 pk, .int .i64 pa, .int .i64 pb, .int .i64 pc] 94)
  have G2 := G1.out.alloc (.cells #[.int .i64 pk, .int .i64 pa, .int .i64 pb, .int .i64 pc] 94)
  generalize w1.alloc (.cells #[.int .i64 pk, .int .i64 pa, .int .i64 pb, .int .i64 pc] 94) = w2 at *
  generalize w1.heap.size = B at *
  have R2 := Lib.hid (h.out.same hj G2)
  have K2 := Lib.hid ((ThS.keptX (h.out.th j hj) G2).mono (Y := [116, 97, 85, 2]) (by simp))
  clear G2 G1 HO1
  have t2 := R2.out.th j hj
  have S2 := Lib.hid (ThS.refl t2)
  have c2 := t2.cell 2
  simp only [thC, List.getElem?_cons_zero, List.getElem?_cons_succ] at c2
  have t2 := Lib.hid t2
  have hba : ∀ (wx : World), Hid (KeptX [116, 97, 85, 2] w2 wx) → wx.cell? ⟨B, 0, none⟩ = some (.int .i64 pk) ∧ wx.cell? ⟨B, 1, none⟩ = some (.int .i64 pa) ∧ wx.cell? ⟨B, 2, none⟩ = some (.int .i64 pb) ∧ wx.cell? ⟨B, 3, none⟩ = some (.int .i64 pc) := fun wx hkx => by
    have e := hkx.out _ _ _ E2 (by simp)
    exact ⟨by rw [cellAt e 0]; rfl, by rw [cellAt e 1]; rfl, by rw [cellAt e 2]; rfl, by rw [cellAt e 3]; rfl⟩
  replace hba := Lib.hid hba
  clear E2
  rcases hst with ⟨hpc, hc3, hT, ⟨n1a, n1b⟩, hz⟩ | ⟨hpc, n1a, n1b⟩ | hpc | hpc | hpc | ⟨hpc, a0, a1⟩
  · rcases hpc with hpc | hpc
    · rw [hpc] at c2
      have hsb : stepB ws.length ws al (T j) = (if al = true then endT { T j with pc := 11 } (false, 5) else { T j with pc := 11 }, ws, al) := by unfold stepB; rw [if_pos hpc]
      have z2 := S2.out.free 2
      have H3 := Lib.hid (S2.out.put 2 (.int .i64 11) (t'' := { T j with pc := 11 }) rfl rfl rfl)
      have M3 := R2.out.mv.thS t2.out H3.out
      have m1 : (w2.setCell ⟨tb j, 2, none⟩ (.int .i64 11)).cell? ⟨mb, 1, none⟩ = some (.bool al) := by rw [cellAt M3.blk 1]; rfl
      clear M3
      go_upto_region 4 with fail
      generalize w2.setCell ⟨tb j, 2, none⟩ (.int .i64 11) = w3 at *
      clear c2 z2
      cases al with
      | true =>
        rw [if_pos rfl] at hsb
        have HE := end_walk H3.out.th (Nat.le_trans R2.out.size H3.out.size) (by show (T j).ans.length ≤ 100000; omega) (by show (T j).i ≤ 100000; omega) (false, 5)
        simp only at HE
        replace HE := Lib.hid HE
        go_upto_region 29 with (go_at_call 49; refine HE.out.mono ?_; rintro e w5 ⟨rfl, ow5, va5, g5⟩; have G5 := Lib.hid (H3.out.trans g5); clear g5)
        have RB := HRB.out
        rw [hsb] at RB
        have HB := Lib.hid (hbeg.out _ _ _ _ _ _ _ _ _ _ _ _ _ (R2.out.mv.thS (R2.out.th j hj) G5.out) G5.out.th (Nat.le_trans R2.out.size G5.out.size) RB.ops RB.i (by rw [RB.ans]; exact Nat.le_refl _) (by first | exact hlen | (simp only [List.length_set]; exact hlen)))
        try simp only [List.length_set] at HB
        clear RB
        go_wp2_with (go_at_call 33; refine HB.out.mono ?_; rintro e w9 ⟨rfl, ow9, va9, g9⟩; have G9 := Lib.hid (G5.out.trans g9); clear g9)
        go_end0
        have G10 := G9.out
        exact ⟨rfl, step_fin R2.out hj K2.out hsb G10⟩
      | false =>
        rw [if_neg (by decide)] at hsb
        go_upto_region 29 with fail
        have RB := HRB.out
        rw [hsb] at RB
        have HB := Lib.hid (hbeg.out _ _ _ _ _ _ _ _ _ _ _ _ _ (R2.out.mv.thS (R2.out.th j hj) H3.out) H3.out.th (Nat.le_trans R2.out.size H3.out.size) RB.ops RB.i (by rw [RB.ans]; exact Nat.le_refl _) (by first | exact hlen | (simp only [List.length_set]; exact hlen)))
        try simp only [List.length_set] at HB
        clear RB
        go_wp2_with (go_at_call 33; refine HB.out.mono ?_; rintro e w9 ⟨rfl, ow9, va9, g9⟩; have G9 := Lib.hid (H3.out.trans g9); clear g9)
        go_end0
        have G10 := G9.out
        exact ⟨rfl, step_fin R2.out hj K2.out hsb G10⟩
    · rw [hpc] at c2
      have hsb : stepB ws.length ws al (T j) = (waitM (T j) (ws.getD (T j).n1.toNat 0) (decide ((T j).n1.toNat + 1 = ws.length)), ws, al) := by unfold stepB; rw [if_neg (by omega), if_pos hpc]
      have HW := Lib.hid (wait_walk R2.out.mv t2.out R2.out.size ⟨by omega, hlt, by omega, h0, by omega⟩ (k := (T j).n1.toNat) (by omega) (by omega) hlen)
      go_upto_region 29 with (go_at_call 50; refine HW.out.mono ?_; rintro e w5 ⟨rfl, ow5, va5, g5⟩; have G5 := Lib.hid g5; clear g5)
      have RB := HRB.out
      rw [hsb] at RB
      have HB := Lib.hid (hbeg.out _ _ _ _ _ _ _ _ _ _ _ _ _ (R2.out.mv.thS (R2.out.th j hj) G5.out) G5.out.th (Nat.le_trans R2.out.size G5.out.size) RB.ops RB.i (by rw [RB.ans]; exact Nat.le_refl _) (by first | exact hlen | (simp only [List.length_set]; exact hlen)))
      try simp only [List.length_set] at HB
      clear RB
      go_wp2_with (go_at_call 33; refine HB.out.mono ?_; rintro e w9 ⟨rfl, ow9, va9, g9⟩; have G9 := Lib.hid (G5.out.trans g9); clear g9)
      go_end0
      have G10 := G9.out
      exact ⟨rfl, step_fin R2.out hj K2.out hsb G10⟩
  · rw [hpc] at c2
    have hsb : stepB ws.length ws al (T j) = (if (T j).n1.toNat + 1 = ws.length then endT { T j with n2 := srcN2 (T j) (ws.getD (T j).n1.toNat 0), n1 := (T j).n1 + 1 } (true, srcN2 (T j) (ws.getD (T j).n1.toNat 0)) else { T j with n2 := srcN2 (T j) (ws.getD (T j).n1.toNat 0), n1 := (T j).n1 + 1 }, ws, al) := by unfold stepB; rw [if_neg (by omega), if_neg (by omega), if_pos hpc]
    obtain ⟨m, hm⟩ : ∃ m : Nat, (T j).n1 = m := ⟨(T j).n1.toNat, by omega⟩
    have hmt : (T j).n1.toNat = m := by omega
    rw [hmt] at hsb
    have HW := Lib.hid (source_walk R2.out.mv t2.out (k := m) hm (by omega) hlen)
    generalize hv : ws.getD m 0 = v at *
    replace hv := Lib.hid hv
    have hsb1 : Hid (decide (m + 1 = ws.length) = true → stepB ws.length ws al (T j) = (endT { T j with n2 := srcN2 (T j) v, n1 := (T j).n1 + 1 } (true, srcN2 (T j) v), ws, al)) := Lib.hid fun z => by rw [hsb, if_pos (of_decide_eq_true z)]
    have hsb0 : Hid (decide (m + 1 = ws.length) = false → stepB ws.length ws al (T j) = ({ T j with n2 := srcN2 (T j) v, n1 := (T j).n1 + 1 }, ws, al)) := Lib.hid fun z => by rw [hsb, if_neg (of_decide_eq_false z)]
    clear hsb
    generalize hlb : decide (m + 1 = ws.length) = lb at *
    replace hlb := Lib.hid hlb
    go_upto_region 10 with (go_at_call 51; refine HW.out.mono ?_; rintro e w5 ⟨rfl, g5⟩; have G5 := Lib.hid g5; clear g5)
    have c4 := G5.out.cell 4
    have z4 := G5.out.free 4
    simp only [thC, List.getElem?_cons_zero, List.getElem?_cons_succ] at c4
    rw [hm] at c4
    have e4 : IntKind.i64.wrap ((m : Int) + 1) = (m : Int) + 1 := by rw [IntKind.wrap_i64]; omega
    have H6 : ThS N ow j (tb j) (vo j) (va j) w2 ow (va j) { T j with n2 := srcN2 (T j) v, n1 := (T j).n1 + 1 } (w5.setCell ⟨tb j, 4, none⟩ (.int .i64 ((m : Int) + 1))).drew := by
      have := (G5.out.put 4 (.int .i64 ((T j).n1 + 1)) (t'' := { T j with n2 := srcN2 (T j) v, n1 := (T j).n1 + 1 }) rfl rfl rfl).drew
      rw [hm] at this ⊢
      exact this
    replace H6 := Lib.hid H6
    go_region
    go_upto_region 11 with fail
    generalize (w5.setCell ⟨tb j, 4, none⟩ (.int .i64 ((m : Int) + 1))).drew = w6 at *
    clear c4 z4 e4
    cases lb with
    | true =>
      have hsb := hsb1.out rfl
      have c5 := H6.out.cell 5
      simp only [thC, List.getElem?_cons_zero, List.getElem?_cons_succ] at c5
      have HE := end_walk H6.out.th (Nat.le_trans R2.out.size H6.out.size) (by show (T j).ans.length ≤ 100000; omega) (by show (T j).i ≤ 100000; omega) (true, srcN2 (T j) v)
      simp only at HE
      replace HE := Lib.hid HE
      go_upto_region 29 with (go_at_call 49; refine HE.out.mono ?_; rintro e w5 ⟨rfl, ow5, va5, g5⟩; have G7 := Lib.hid (H6.out.trans g5); clear g5)
      have RB := HRB.out
      rw [hsb] at RB
      have HB := Lib.hid (hbeg.out _ _ _ _ _ _ _ _ _ _ _ _ _ (R2.out.mv.thS (R2.out.th j hj) G7.out) G7.out.th (Nat.le_trans R2.out.size G7.out.size) RB.ops RB.i (by rw [RB.ans]; exact Nat.le_refl _) (by first | exact hlen | (simp only [List.length_set]; exact hlen)))
      try simp only [List.length_set] at HB
      clear RB
      go_wp2_with (go_at_call 33; refine HB.out.mono ?_; rintro e w9 ⟨rfl, ow9, va9, g9⟩; have G9 := Lib.hid (G7.out.trans g9); clear g9)
      go_end0
      have G10 := G9.out
      exact ⟨rfl, step_fin R2.out hj K2.out hsb G10⟩
    | false =>
      have hsb := hsb0.out rfl
      go_upto_region 29 with fail
      have RB := HRB.out
      rw [hsb] at RB
      have HB := Lib.hid (hbeg.out _ _ _ _ _ _ _ _ _ _ _ _ _ (R2.out.mv.thS (R2.out.th j hj) H6.out) H6.out.th (Nat.le_trans R2.out.size H6.out.size) RB.ops RB.i (by rw [RB.ans]; exact Nat.le_refl _) (by first | exact hlen | (simp only [List.length_set]; exact hlen)))
      try simp only [List.length_set] at HB
      clear RB
      go_wp2_with (go_at_call 33; refine HB.out.mono ?_; rintro e w9 ⟨rfl, ow9, va9, g9⟩; have G9 := Lib.hid (H6.out.trans g9); clear g9)
      go_end0
      have G10 := G9.out
      exact ⟨rfl, step_fin R2.out hj K2.out hsb G10⟩
  · rw [hpc] at c2
    have hsb : stepB ws.length ws al (T j) = (endT (T j) (!al, 0), ws, true) := by unfold stepB; rw [if_neg (by omega), if_neg (by omega), if_neg (by omega), if_pos hpc]
    have m1 : w2.cell? ⟨mb, 1, none⟩ = some (.bool al) := by rw [cellAt R2.out.mv.blk 1]; rfl
    have y1 := freeAt R2.out.mv.blk 1
    obtain ⟨R3', K3'⟩ := R2.out.alert true
    have R3 := Lib.hid R3'
    have K3 := Lib.hid (K2.out.trans (K3'.mono (Y := [116, 97, 85, 2]) (by simp)))
    have S3 := Lib.hid (ThS.refl (R3'.th j hj))
    clear R3' K3'
    go_upto_region 16 with fail
    generalize w2.setCell ⟨mb, 1, none⟩ (.bool true) = w3 at *
    clear m1 y1
    have HE := end_walk S3.out.th (Nat.le_trans R3.out.size S3.out.size) (by show (T j).ans.length ≤ 100000; omega) (by show (T j).i ≤ 100000; omega) (!al, 0)
    simp only at HE
    replace HE := Lib.hid HE
    go_upto_region 29 with (go_at_call 49; refine HE.out.mono ?_; rintro e w5 ⟨rfl, ow5, va5, g5⟩; have G5 := Lib.hid (S3.out.trans g5); clear g5)
    have RB := HRB.out
    rw [hsb] at RB
    have HB := Lib.hid (hbeg.out _ _ _ _ _ _ _ _ _ _ _ _ _ (R3.out.mv.thS (R3.out.th j hj) G5.out) G5.out.th (Nat.le_trans R3.out.size G5.out.size) RB.ops RB.i (by rw [RB.ans]; exact Nat.le_refl _) (by first | exact hlen | (simp only [List.length_set]; exact hlen)))
    try simp only [List.length_set] at HB
    clear RB
    go_wp2_with (go_at_call 33; refine HB.out.mono ?_; rintro e w9 ⟨rfl, ow9, va9, g9⟩; have G9 := Lib.hid (G5.out.trans g9); clear g9)
    go_end0
    have G10 := G9.out
    exact ⟨rfl, step_fin R3.out hj K3.out hsb G10⟩
  · rw [hpc] at c2
    have hsb : stepB ws.length ws al (T j) = (endT (T j) (al, 0), ws, false) := by unfold stepB; rw [if_neg (by omega), if_neg (by omega), if_neg (by omega), if_neg (by omega), if_pos hpc]
    have m1 : w2.cell? ⟨mb, 1, none⟩ = some (.bool al) := by rw [cellAt R2.out.mv.blk 1]; rfl
    have y1 := freeAt R2.out.mv.blk 1
    obtain ⟨R3', K3'⟩ := R2.out.alert false
    have R3 := Lib.hid R3'
    have K3 := Lib.hid (K2.out.trans (K3'.mono (Y := [116, 97, 85, 2]) (by simp)))
    have S3 := Lib.hid (ThS.refl (R3'.th j hj))
    clear R3' K3'
    go_upto_region 20 with fail
    generalize w2.setCell ⟨mb, 1, none⟩ (.bool false) = w3 at *
    clear m1 y1
    have HE := end_walk S3.out.th (Nat.le_trans R3.out.size S3.out.size) (by show (T j).ans.length ≤ 100000; omega) (by show (T j).i ≤ 100000; omega) (al, 0)
    simp only at HE
    replace HE := Lib.hid HE
    go_upto_region 29 with (go_at_call 49; refine HE.out.mono ?_; rintro e w5 ⟨rfl, ow5, va5, g5⟩; have G5 := Lib.hid (S3.out.trans g5); clear g5)
    have RB := HRB.out
    rw [hsb] at RB
    have HB := Lib.hid (hbeg.out _ _ _ _ _ _ _ _ _ _ _ _ _ (R3.out.mv.thS (R3.out.th j hj) G5.out) G5.out.th (Nat.le_trans R3.out.size G5.out.size) RB.ops RB.i (by rw [RB.ans]; exact Nat.le_refl _) (by first | exact hlen | (simp only [List.length_set]; exact hlen)))
    try simp only [List.length_set] at HB
    clear RB
    go_wp2_with (go_at_call 33; refine HB.out.mono ?_; rintro e w9 ⟨rfl, ow9, va9, g9⟩; have G9 := Lib.hid (G5.out.trans g9); clear g9)
    go_end0
    have G10 := G9.out
    exact ⟨rfl, step_fin R3.out hj K3.out hsb G10⟩
  · rw [hpc] at c2
    have hsb : stepB ws.length ws al (T j) = (endT (T j) (al, 0), ws, al) := by unfold stepB; rw [if_neg (by omega), if_neg (by omega), if_neg (by omega), if_neg (by omega), if_neg (by omega), if_pos hpc]
    have m1 : w2.cell? ⟨mb, 1, none⟩ = some (.bool al) := by rw [cellAt R2.out.mv.blk 1]; rfl
    have HE := end_walk S2.out.th (Nat.le_trans R2.out.size S2.out.size) (by show (T j).ans.length ≤ 100000; omega) (by show (T j).i ≤ 100000; omega) (al, 0)
    simp only at HE
    replace HE := Lib.hid HE
    go_upto_region 29 with (go_at_call 49; refine HE.out.mono ?_; rintro e w5 ⟨rfl, ow5, va5, g5⟩; have G5 := Lib.hid (S2.out.trans g5); clear g5)
    have RB := HRB.out
    rw [hsb] at RB
    have HB := Lib.hid (hbeg.out _ _ _ _ _ _ _ _ _ _ _ _ _ (R2.out.mv.thS (R2.out.th j hj) G5.out) G5.out.th (Nat.le_trans R2.out.size G5.out.size) RB.ops RB.i (by rw [RB.ans]; exact Nat.le_refl _) (by first | exact hlen | (simp only [List.length_set]; exact hlen)))
    try simp only [List.length_set] at HB
    clear RB
    go_wp2_with (go_at_call 33; refine HB.out.mono ?_; rintro e w9 ⟨rfl, ow9, va9, g9⟩; have G9 := Lib.hid (G5.out.trans g9); clear g9)
    go_end0
    have G10 := G9.out
    exact ⟨rfl, step_fin R2.out hj K2.out hsb G10⟩
  · rcases hpc with hpc | hpc
    · rw [hpc] at c2
      have hat : pa.toNat < ws.length := by omega
      have hsb : stepB ws.length ws al (T j) = (endT (T j) (true, 0), ws.set pa.toNat pb, al) := by unfold stepB; rw [if_neg (by omega), if_neg (by omega), if_neg (by omega), if_neg (by omega), if_neg (by omega), if_neg (by omega), if_pos hpc]; simp only [hq.out]
      obtain ⟨g, cap, hv, q0, q1, _⟩ := R2.out.mv.word hat
      have m0 : w2.cell? ⟨mb, 0, none⟩ = some (.slice (some ⟨g, 0, none⟩) ws.length cap) := by rw [cellAt R2.out.mv.blk 0, ← hv]; rfl
      obtain ⟨R3', K3'⟩ := R2.out.word hv hat pb
      have R3 := Lib.hid R3'.drewM
      have K3 := Lib.hid (K2.out.trans (K3'.mono (Y := [116, 97, 85, 2]) (by simp))).drew
      have S3 := Lib.hid (ThS.refl (R3.out.th j hj))
      clear R3' K3'
      obtain ⟨b0, b1, b2, b3⟩ := hba.out _ (Lib.hid KeptX.refl)
      obtain ⟨a, rfl⟩ : ∃ a : Nat, pa = a := ⟨pa.toNat, by omega⟩
      rw [Int.toNat_natCast] at *
      have hat' : (a : Int) < (ws.length : Int) := by omega
      go_upto_region 24 with fail
      go_region
      go_upto_region 25 with fail
      generalize (w2.setCell ⟨g, a, none⟩ (.int .i64 pb)).drew = w3 at *
      clear m0 q0 q1 b0 b1 b2 b3
      have HE := end_walk S3.out.th (Nat.le_trans R3.out.size S3.out.size) (by show (T j).ans.length ≤ 100000; omega) (by show (T j).i ≤ 100000; omega) (true, 0)
      simp only at HE
      replace HE := Lib.hid HE
      go_upto_region 29 with (go_at_call 49; refine HE.out.mono ?_; rintro e w5 ⟨rfl, ow5, va5, g5⟩; have G5 := Lib.hid (S3.out.trans g5); clear g5)
      have RB := HRB.out
      rw [hsb] at RB
      have HB := Lib.hid (hbeg.out _ _ _ _ _ _ _ _ _ _ _ _ _ (R3.out.mv.thS (R3.out.th j hj) G5.out) G5.out.th (Nat.le_trans R3.out.size G5.out.size) RB.ops RB.i (by rw [RB.ans]; exact Nat.le_refl _) (by first | exact hlen | (simp only [List.length_set]; exact hlen)))
      try simp only [List.length_set] at HB
      clear RB
      go_wp2_with (go_at_call 33; refine HB.out.mono ?_; rintro e w9 ⟨rfl, ow9, va9, g9⟩; have G9 := Lib.hid (G5.out.trans g9); clear g9)
      go_end0
      have G10 := G9.out
      exact ⟨rfl, step_fin R3.out hj K3.out hsb G10⟩
    · rw [hpc] at c2
      have hat : pa.toNat < ws.length := by omega
      have hsb : stepB ws.length ws al (T j) = (endT (T j) (true, addW (ws.getD pa.toNat 0) pb), ws.set pa.toNat (addW (ws.getD pa.toNat 0) pb), al) := by unfold stepB; rw [if_neg (by omega), if_neg (by omega), if_neg (by omega), if_neg (by omega), if_neg (by omega), if_neg (by omega), if_neg (by omega)]; simp only [hq.out]
      obtain ⟨g, cap, hv, q0, q1, _⟩ := R2.out.mv.word hat
      have m0 : w2.cell? ⟨mb, 0, none⟩ = some (.slice (some ⟨g, 0, none⟩) ws.length cap) := by rw [cellAt R2.out.mv.blk 0, ← hv]; rfl
      obtain ⟨R3', K3'⟩ := R2.out.word hv hat (addW (ws.getD pa.toNat 0) pb)
      have R3 := Lib.hid R3'.drewM
      have K3h := Lib.hid (K3'.mono (Y := [116, 97, 85, 2]) (by simp)).drew
      have K3 := Lib.hid (K2.out.trans (K3'.mono (Y := [116, 97, 85, 2]) (by simp))).drew
      clear R3' K3'
      obtain ⟨b0, b1, b2, b3⟩ := hba.out _ (Lib.hid KeptX.refl)
      obtain ⟨a, rfl⟩ : ∃ a : Nat, pa = a := ⟨pa.toNat, by omega⟩
      rw [Int.toNat_natCast] at *
      have hat' : (a : Int) < (ws.length : Int) := by omega
      have hadd : IntKind.i64.wrap (ws.getD a 0 + pb) = addW (ws.getD a 0) pb := rfl
      generalize ws.getD a 0 = v0 at *
      generalize hx : addW v0 pb = x at *
      replace hx := Lib.hid hx
      go_upto_region 27 with fail
      go_cut [111] (fun _ wx => wx = (w2.setCell ⟨g, a, none⟩ (.int .i64 x)).drew)
      case first =>
        go_region
        all_goals (go_wp2_with fail; go_meet)
        all_goals rfl
      case rest =>
      generalize (w2.setCell ⟨g, a, none⟩ (.int .i64 x)).drew = w3 at *
      subst hcut
      go_upto_region 28 with fail
      clear m0 q0 q1 b0 b1 b2 b3 hadd
      obtain ⟨b0, b1, b2, b3⟩ := hba.out _ K3h
      have m0 : wc.cell? ⟨mb, 0, none⟩ = some (.slice (some ⟨g, 0, none⟩) ws.length cap) := by rw [cellAt R3.out.mv.blk 0, ← hv]; rfl
      have q0 : wc.cell? ⟨g, a, none⟩ = some (.int .i64 x) := by
        obtain ⟨g', cap', hv', q0, _, _⟩ := R3.out.mv.word (k := a) (by rw [List.length_set]; exact hat)
        rw [hv] at hv'
        injection hv' with e1 e2 e3
        injection e1 with e1
        injection e1 with e1
        subst e1
        rw [q0, List.getD_eq_getElem?_getD, List.getElem?_set_self hat]
        rfl
      have S3 := ThS.refl (R3.out.th j hj)
      have HE := fun wd (hd : ThS N ow j (tb j) (vo j) (va j) wc ow (va j) (T j) wd) => end_walk hd.th (Nat.le_trans R3.out.size hd.size) (by show (T j).ans.length ≤ 100000; omega) (by show (T j).i ≤ 100000; omega) (true, x)
      simp only at HE
      replace HE := Lib.hid HE
      replace S3 := Lib.hid S3
      replace S3 := S3.out.drew
      have HE2 := Lib.hid (HE.out _ S3)
      replace S3 := Lib.hid S3
      have R3d := Lib.hid R3.out.drewM
      have hsb := hsb
      go_region_with (first | (go_at_call 49; refine HE2.out.mono ?_; rintro e w5 ⟨rfl, ow5, va5, g5⟩; have G5 := Lib.hid (S3.out.trans g5); clear g5))
      all_goals
        go_upto_region 29 with fail
        have RB := HRB.out
        rw [hsb] at RB
        have HB := Lib.hid (hbeg.out _ _ _ _ _ _ _ _ _ _ _ _ _ (R3.out.mv.thS (R3.out.th j hj) G5.out) G5.out.th (Nat.le_trans R3.out.size G5.out.size) RB.ops RB.i (by rw [RB.ans]; exact Nat.le_refl _) (by first | exact hlen | (simp only [List.length_set]; exact hlen)))
        try simp only [List.length_set] at HB
        clear RB
        go_wp2_with (go_at_call 33; refine HB.out.mono ?_; rintro e w9 ⟨rfl, ow9, va9, g9⟩; have G9 := Lib.hid (G5.out.trans g9); clear g9)
        go_end0
        have G10 := G9.out
        exact ⟨rfl, step_fin R3.out hj K3.out hsb G10⟩
end Go.Proofs.Ytimkkeomdkbcjaa
