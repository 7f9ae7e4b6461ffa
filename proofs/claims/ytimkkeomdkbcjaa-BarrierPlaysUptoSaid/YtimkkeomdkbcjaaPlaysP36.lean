/-
  Merged out of: RefP Ref9. No condition of its own.
-/
import Derived.Test.YtimkkeomdkbcjaaPlaysP35
import Derived.Test.YtimkkeomdkbcjaaPlaysP34
import Derived.Deep.QuietTactic
set_option linter.unusedVariables false
set_option linter.unusedSimpArgs false
/-
  The document's machine: Pick (f35), walked. No condition of its own.
-/
namespace Go.Proofs.Ytimkkeomdkbcjaa
open Go.Conc Go.RowKit
open Go.ConcN renaming upd → updN
open Go.ConcN (upd_ne upd_same)
def dist (n t r : Nat) : Nat := if r ≤ t then t - r else t + n - r
set_option maxRecDepth 100000 in
set_option maxHeartbeats 4000000 in
theorem pick_walk {base base2 ub n : Nat} {vs vo vth : Value} {u : TU} {tb : Nat → Nat} {E : Nat → Bool} {w : World} (hU : TuB base ub vs vo u w) (hrow : w.ownsRow base2 87 1 vth n ((List.range n).map fun i => .pointer (some ⟨tb i, 0, none⟩))) (hn : n ≤ 64) (hb : base ≤ w.heap.size)
    (hth : ∀ i, i < n → ∃ cs, w.heap[tb i]? = some (.cells cs 116 (0, 0)) ∧ cs[13]? = some (.bool (E i))) (hord : u.ord.length ≤ 1048576) (hsch : u.sch.length ≤ 1048576) (hpos : u.pos ≤ u.sch.length) (hrnd : 0 < n → u.rnd < n) :
    Calls Try.prog 35 #[.pointer (some ⟨ub, 0, none⟩), vth] w (DonePick base ub n vs E u w) := by
  obtain ⟨i3, hi3, z1, z2, z3⟩ := info_parts info3
  obtain ⟨sp, sc, hvs⟩ := slice_of hU.rowS
  subst hvs
  obtain ⟨tp, tc, e1, hle, hptr⟩ := row_cells hrow
  subst e1
  have P0 := Lib.hid (PkS.refl hU)
  have hfl : Hid (∀ (w' : World), KeptX [120, 3] w w' → ∀ i, i < n → ∃ g, tp = some ⟨g, 0, none⟩ ∧ w'.cell? ⟨g, i, none⟩ = some (.pointer (some ⟨tb i, 0, none⟩)) ∧ w'.cell? ⟨tb i, 13, none⟩ = some (.bool (E i))) := Lib.hid fun w' hk i hi => by
    obtain ⟨g, c, e2, _, hg, hc⟩ := hptr (by omega)
    obtain ⟨cs, q1, q2⟩ := hth i hi
    refine ⟨g, e2, ?_, ?_⟩
    · rw [cellAt (hk _ _ _ hg (by simp)), hc i hi]
      simp [hi]
    · rw [cellAt (hk _ _ _ q1 (by simp)), q2]
  have hsc : Hid (∀ (w' : World) (vo' : Value) (u' : TU), PkS base ub (.slice sp u.sch.length sc) vo' u' w w' → u'.sch = u.sch → ∀ q, q < u.sch.length → ∃ g, sp = some ⟨g, 0, none⟩ ∧ w'.cell? ⟨g, q, none⟩ = some (.int .i64 (u.sch.getD q 0))) := Lib.hid fun w' vo' u' hp hs q hq => by
    have hr := hp.tu.rowS
    rw [hs] at hr
    obtain ⟨p, cap, e3, _, k⟩ := row_cells hr
    obtain ⟨g, c, e2, _, hg, hc⟩ := k (by omega)
    injection e3 with e3
    refine ⟨g, e3.trans e2, ?_⟩
    rw [cellAt hg, hc q hq]
    simp [intsL, List.getD_eq_getElem?_getD, hq]
  clear hth hptr hrow hU
  go_enter Try.func35, Try.ntmps35
  go_wp2_with fail
  go_loopw [5, 6] (fun lv iv wr => ∃ (i l : Nat), i ≤ n ∧ iv = .int .i64 i ∧ lv = .int .i64 l ∧ l ≤ i ∧ Hid (l = 0 ↔ ∀ q, q < i → E q = true) ∧ w = wr) (fun _ iv _ => n - (intOf iv).toNat)
  case atStart => exact ⟨0, 0, by omega, rfl, rfl, by omega, Lib.hid ⟨fun _ q hq => by omega, fun _ => rfl⟩, rfl⟩
  case round =>
    obtain ⟨i, l, hi, rfl, rfl, hl, HC, rfl⟩ := hrel
    by_cases hlt : i < n
    · have hlt' : (i : Int) < (n : Int) := by omega
      obtain ⟨g, rfl, cp, cf⟩ := hfl.out _ KeptX.refl i hlt
      have e2 : IntKind.i64.wrap ((i : Int) + 1) = ((i + 1 : Nat) : Int) := by rw [IntKind.wrap_i64]; omega
      have e3 : IntKind.i64.wrap ((l : Int) + 1) = ((l + 1 : Nat) : Int) := by rw [IntKind.wrap_i64]; omega
      cases hE : E i with
      | true =>
        rw [hE] at cf
        go_wp2_with fail
        refine ⟨⟨i + 1, l, by omega, by rw [Int.natCast_add]; rfl, rfl, by omega, Lib.hid ?_, trivial⟩, by simp [intOf]; omega⟩
        rw [HC.out]
        refine ⟨fun h q hq => ?_, fun h q hq => h q (by omega)⟩
        by_cases e : q = i
        · rw [e]; exact hE
        · exact h q (by omega)
      | false =>
        rw [hE] at cf
        go_wp2_with fail
        refine ⟨⟨i + 1, l + 1, by omega, by rw [Int.natCast_add]; rfl, by rw [Int.natCast_add]; rfl, by omega, Lib.hid ?_, trivial⟩, by simp [intOf]; omega⟩
        refine ⟨fun h => by omega, fun h => ?_⟩
        have := h i (by omega)
        rw [hE] at this
        cases this
    · obtain rfl : n = i := by omega
      by_cases hl0 : l = 0
      · subst hl0
        go_wp2_with fail
        go_ret
        exact ⟨_, _, _, rfl, .inl ⟨HC.out.1 (by trivial), rfl, rfl⟩, P0.out⟩
      · have hl0' : ¬ (l : Int) = 0 := by omega
        have hsome : Hid (∃ t, t < n ∧ E t = false) := Lib.hid (by
          apply Classical.byContradiction
          intro hno
          refine hl0 (HC.out.2 fun q hq => ?_)
          cases hq2 : E q with
          | true => rfl
          | false => exact absurd ⟨q, hq, hq2⟩ hno)
        obtain ⟨op, oc, hvo⟩ := slice_of P0.out.tu.rowO
        subst hvo
        have c4 := P0.out.cell 4
        have c3 := P0.out.cell 3
        simp only [tuC, List.getElem?_cons_zero, List.getElem?_cons_succ] at c4 c3
        go_upto_region 9 with fail
        go_region
        clear c4 c3
        have P1 := Lib.hid P0.out.drew
        by_cases hm : u.most ≤ (u.ord.length : Int)
        · have H5 := Lib.hid (P1.out.put 5 (.bool true) (u' := { u with stuck := true }) rfl rfl rfl)
          have c5 := P1.out.cell 5
          have y5 := P1.out.free 5
          simp only [tuC, List.getElem?_cons_zero, List.getElem?_cons_succ] at c5
          go_wp2_with fail
          go_ret
          exact ⟨_, _, _, rfl, .inr (.inl ⟨hsome.out, hm, rfl, rfl⟩), H5.out⟩
        · have hm' : (u.ord.length : Int) < u.most := by omega
          go_wp2_with fail
          go_loopw [7] (fun _ wr => ∃ p : Nat, u.pos ≤ p ∧ p ≤ u.sch.length ∧ Hid (∀ q, u.pos ≤ q → q < p → SkipE n E (u.sch.getD q 0)) ∧ Hid (PkS base ub (.slice sp u.sch.length sc) (.slice op u.ord.length oc) { u with pos := p } w wr)) (fun _ wr => u.sch.length - natAt wr ub 1)
          case atStart => exact ⟨u.pos, by omega, hpos, Lib.hid (fun q _ _ => by omega), P1⟩
          case round =>
            obtain ⟨p, hp1, hp2, HK, HP⟩ := hrel
            have c0 := HP.out.cell 0
            have c1 := HP.out.cell 1
            simp only [tuC, List.getElem?_cons_zero, List.getElem?_cons_succ] at c0 c1
            have n1 := Lib.hid (show natAt wr ub 1 = p by unfold natAt; rw [c1]; simp [intOf])
            by_cases hlt : p < u.sch.length
            · have hlt' : (p : Int) < (u.sch.length : Int) := by omega
              obtain ⟨g, rfl, cs⟩ := hsc.out _ _ _ HP.out rfl p hlt
              generalize hx : u.sch.getD p 0 = x at cs
              replace hx := Lib.hid hx
              have HSK : Hid (SkipE n E x → ∀ q, u.pos ≤ q → q < p + 1 → SkipE n E (u.sch.getD q 0)) := Lib.hid fun h q a b => by
                by_cases e : q = p
                · rw [e, hx.out]; exact h
                · exact HK.out q a (by omega)
              have y1 := HP.out.free 1
              have HQ := (HP.out.put 1 (.int .i64 ((p : Int) + 1)) (u' := { u with pos := p + 1 }) rfl rfl rfl).drew.drew
              have e1 : IntKind.i64.wrap ((p : Int) + 1) = (p : Int) + 1 := by rw [IntKind.wrap_i64]; omega
              go_upto_region 12 with fail
              go_region
              go_upto_region 13 with fail
              go_region
              go_upto_region 15 with fail
              generalize (wr.setCell ⟨ub, 1, none⟩ (.int .i64 ((p : Int) + 1))).drew.drew = w5 at *
              clear c0 c1 y1 cs
              have n5 := Lib.hid (show natAt w5 ub 1 = p + 1 by
                have c1 := HQ.cell 1
                simp only [tuC, List.getElem?_cons_zero, List.getElem?_cons_succ] at c1
                unfold natAt; rw [c1]; simp [intOf]; omega)
              have PD := Lib.hid HQ
              clear HQ
              by_cases x0 : x < 0
              · have x0' : ¬ 0 ≤ x := by omega
                go_wp2_with fail
                refine ⟨⟨p + 1, by omega, by omega, Lib.hid (HSK.out (.inl x0)), PD⟩, by rw [n1.out, n5.out]; omega⟩
              · have x0' : 0 ≤ x := by omega
                by_cases xn : x < (n : Int)
                · obtain ⟨t, rfl⟩ : ∃ t : Nat, x = t := ⟨x.toNat, by omega⟩
                  have ht : t < n := by omega
                  obtain ⟨g2, rfl, cp, cf⟩ := hfl.out _ PD.out.kept t ht
                  cases hE : E t with
                  | true =>
                    rw [hE] at cf
                    go_wp2_with fail
                    refine ⟨⟨p + 1, by omega, by omega, Lib.hid (HSK.out (.inr (.inr (by rw [Int.toNat_natCast]; exact hE)))), PD⟩, by rw [n1.out, n5.out]; omega⟩
                  | false =>
                    rw [hE] at cf
                    have c4 := PD.out.cell 4
                    simp only [tuC, List.getElem?_cons_zero, List.getElem?_cons_succ] at c4
                    have al : ∀ {a : Addr} {v : Value} (o : Obj), w5.cell? a = some v → (w5.alloc o).cell? a = some v := fun {a v} o hv => (World.cell?_of_block (w := w5) (Below.heap_alloc _ _ _ (World.block_lt_of_cell? w5 _ hv))).trans hv
                    have HOW := Lib.hid (PD.out.tu.rowO.alloc (.cells #[.int .i64 t] 3))
                    have HSX := Lib.hid (src_one2 w5 (.int .i64 t) 3 rfl)
                    have hsz := Lib.hid (show base ≤ w5.heap.size by have := PD.out.low.size; omega)
                    clear al
                    go_wp2_with (at_builtin; (refine wpList_append_row rfl (.tmp 90) (.tmp 92) 57 rfl base 3 i3 _ _ Try.underlying57 hi3 z1 z2 z3 rfl (.slice op u.ord.length oc) u.ord.length _ rfl HOW.out 1 _ HSX.out ?l2 ?b2 ?n2 ?_); (case l2 => (unfold maxLen; omega)); (case b2 => omega); (case n2 => (have h1 := hsz.out; simp; omega)); intro v' w2 ha; obtain ⟨hB, hM⟩ := PD.out.more hb _ ha; obtain ⟨p2, c2, hv2⟩ := slice_of hM.tu.rowO; have hv3 : v' = .slice p2 (u.ord.length + 1) c2 := hv2.trans (by simp); subst hv3; clear hv2; have d4 : w2.cell? ⟨ub, 4, none⟩ = some (.slice op u.ord.length oc) := (by rw [cellAt hB 4]; rfl); have y4 := freeAt hB 4; have HM := Lib.hid hM; clear hM hB ha)
                    go_ret
                    exact ⟨_, _, _, rfl, .inr (.inr ⟨hm', t, ht, hE, rfl, .inl ⟨p, hp1, hlt, hx.out, HK.out, rfl⟩⟩), HM.out⟩
                · go_wp2_with fail
                  refine ⟨⟨p + 1, by omega, by omega, Lib.hid (HSK.out (.inr (.inl (by omega)))), PD⟩, by rw [n1.out, n5.out]; omega⟩
            · obtain rfl : p = u.sch.length := by omega
              obtain ⟨t0, ht0, hE0⟩ := hsome.out
              have hn0 : ¬ (n : Int) = 0 := by omega
              have P2 : Hid (PkS base ub (.slice sp u.sch.length sc) (.slice op u.ord.length oc) { u with pos := u.sch.length, rnd := u.rnd } w wr.drew) := Lib.hid HP.out.drew
              go_upto_region 12 with fail
              go_region
              clear c0 c1
              go_wp2_with fail
              go_loopw [106] (fun _ wq => ∃ r : Nat, r < n ∧ Hid (∃ d, r = (u.rnd + d) % n ∧ ∀ e, e < d → E ((u.rnd + e) % n) = true) ∧ Hid (PkS base ub (.slice sp u.sch.length sc) (.slice op u.ord.length oc) { u with pos := u.sch.length, rnd := r } w wq)) (fun _ wq => dist n t0 (natAt wq ub 2))
              case atStart => exact ⟨u.rnd, hrnd (by omega), Lib.hid ⟨0, (Nat.mod_eq_of_lt (hrnd (by omega))).symm, fun e he => by omega⟩, P2⟩
              case round =>
                obtain ⟨r, hr, HD, HR⟩ := hrel
                obtain ⟨g2, rfl, cp, cf⟩ := hfl.out _ HR.out.kept r hr
                have c2 := HR.out.cell 2
                have y2 := HR.out.free 2
                simp only [tuC, List.getElem?_cons_zero, List.getElem?_cons_succ] at c2
                have hr' : (r : Int) < (n : Int) := by omega
                have e2 : IntKind.i64.wrap ((r : Int) + 1) = ((r + 1 : Nat) : Int) := by rw [IntKind.wrap_i64]; omega
                have e3 : Int.tmod ((r + 1 : Nat) : Int) (n : Int) = (((r + 1) % n : Nat) : Int) := rfl
                have n2 := Lib.hid (show natAt wr ub 2 = r by unfold natAt; rw [c2]; simp [intOf])
                have hv : (((r + 1) % n : Nat) : Int) = ((r : Int) + 1) % (n : Int) := by rw [Int.natCast_emod]; rfl
                have HQ := HR.out.put 2 (.int .i64 (((r + 1) % n : Nat) : Int)) (u' := { u with pos := u.sch.length, rnd := (r + 1) % n }) rfl rfl rfl
                rw [hv] at HQ
                cases hE : E r with
                | true =>
                  rw [hE] at cf
                  have HQ' := Lib.hid HQ
                  clear HQ
                  go_wp2_with fail
                  refine ⟨⟨(r + 1) % n, Nat.mod_lt _ (by omega), Lib.hid ?_, HQ'⟩, ?_⟩
                  · obtain ⟨d, e, hd⟩ := HD.out
                    refine ⟨d + 1, by rw [e, Nat.mod_add_mod]; rfl, fun q hq => ?_⟩
                    by_cases z : q = d
                    · rw [z, ← e]; exact hE
                    · exact hd q (by omega)
                  · have n5 : natAt (wr.setCell ⟨ub, 2, none⟩ (.int .i64 (((r : Int) + 1) % (n : Int)))) ub 2 = (r + 1) % n := by
                      have c2 := HQ'.out.cell 2
                      simp only [tuC, List.getElem?_cons_zero, List.getElem?_cons_succ] at c2
                      unfold natAt
                      rw [c2]
                      show ((((r + 1) % n : Nat) : Int)).natAbs = _
                      exact Int.natAbs_natCast _
                    have hne : r ≠ t0 := fun z => by rw [z, hE0] at hE; cases hE
                    rw [n5]
                    try rw [n2.out]
                    unfold dist
                    by_cases hl : r + 1 < n
                    · rw [Nat.mod_eq_of_lt hl]
                      split <;> split <;> omega
                    · rw [show r + 1 = n by omega, Nat.mod_self]
                      split <;> split <;> omega
                | false =>
                  rw [hE] at cf
                  go_upto_region 22 with fail
                  generalize wr.setCell ⟨ub, 2, none⟩ (.int .i64 (((r : Int) + 1) % (n : Int))) = w5 at *
                  clear c2 y2
                  have PD := Lib.hid HQ
                  have c4 := PD.out.cell 4
                  simp only [tuC, List.getElem?_cons_zero, List.getElem?_cons_succ] at c4
                  have HOW := Lib.hid (PD.out.tu.rowO.alloc (.cells #[.int .i64 r] 3))
                  have HSX := Lib.hid (src_one2 w5 (.int .i64 r) 3 rfl)
                  have hsz := Lib.hid (show base ≤ w5.heap.size by have := PD.out.low.size; omega)
                  clear HQ
                  go_wp2_with (at_builtin; (refine wpList_append_row rfl (.tmp 137) (.tmp 139) 57 rfl base 3 i3 _ _ Try.underlying57 hi3 z1 z2 z3 rfl (.slice op u.ord.length oc) u.ord.length _ rfl HOW.out 1 _ HSX.out ?l2 ?b2 ?n2 ?_); (case l2 => (unfold maxLen; omega)); (case b2 => omega); (case n2 => (have h1 := hsz.out; simp; omega)); intro v' w2 ha; obtain ⟨hB, hM⟩ := PD.out.more hb _ ha; obtain ⟨p2, c2, hv2⟩ := slice_of hM.tu.rowO; have hv3 : v' = .slice p2 (u.ord.length + 1) c2 := hv2.trans (by simp); subst hv3; clear hv2; have d4 : w2.cell? ⟨ub, 4, none⟩ = some (.slice op u.ord.length oc) := (by rw [cellAt hB 4]; rfl); have y4 := freeAt hB 4; have HM := Lib.hid hM; clear hM hB ha)
                  go_ret
                  obtain ⟨d, e, hd⟩ := HD.out
                  exact ⟨_, _, _, rfl, .inr (.inr ⟨hm', r, hr, hE, rfl, .inr ⟨HK.out, d, e, hd, rfl⟩⟩), HM.out⟩
end Go.Proofs.Ytimkkeomdkbcjaa

/-
  The document's machine: begin (f33), walked. No condition of its own.
-/
namespace Go.Proofs.Ytimkkeomdkbcjaa
open Go.Conc Go.RowKit
section
variable {base mb j tb : Nat} {ow : Nat → Nat} {vw vth vo va : Value} {ws : List Int} {al : Bool} {t : RT} {w : World}
theorem ThS.drewN {ow' : Nat → Nat} {va' : Value} {t' : RT} {w' : World} (h : ThS base ow j tb vo va w ow' va' t' w') (n : Nat) : ThS base ow j tb vo va w ow' va' t' (w'.drewN n) := ⟨⟨h.th.blk, h.th.lo, h.th.rowO, h.th.rowA, h.th.ow⟩, h.keep, h.own, h.row, h.size, h.os, h.tape, h.output⟩
theorem natAt_i {ow' : Nat → Nat} {va' : Value} {t' : RT} {w' : World} (h : ThS base ow j tb vo va w ow' va' t' w') : natAt w' tb 1 = t'.i ∧ (natAt w' tb 2 = t'.pc.natAbs) := by
  have c1 := h.cell 1
  have c2 := h.cell 2
  simp only [thC, List.getElem?_cons_zero, List.getElem?_cons_succ] at c1 c2
  unfold natAt
  rw [c1, c2]
  exact ⟨by simp [intOf], by simp [intOf]⟩
set_option maxRecDepth 100000 in
set_option maxHeartbeats 4000000 in
theorem begin_walk (hM : MV base mb vw vth ws al w) (h : ThB base ow j tb vo va t w) (hb : base ≤ w.heap.size) (hops : t.ops.length ≤ 65536) (hi : t.i ≤ t.ops.length) (hans : t.ans.length ≤ t.i) (hlen : ws.length ≤ 100000) :
    Calls Try.prog 33 #[.pointer (some ⟨mb, 0, none⟩), .pointer (some ⟨tb, 0, none⟩)] w (DoneEnd base ow j tb vo va (beginT ws.length t) w) := by
  have h0 := Lib.hid (ThS.refl h)
  replace h := Lib.hid h
  replace hM := Lib.hid hM
  go_enter Try.func33, Try.ntmps33
  go_wp2_with fail
  go_loopw [4] (fun v4 wr => ∃ (t' : RT) (ow' : Nat → Nat) (va' : Value), Hid (ThS base ow j tb vo va w ow' va' t' wr) ∧ Hid (beginT ws.length t' = beginT ws.length t) ∧ Hid (t'.ops = t.ops) ∧ t'.i ≤ t'.ops.length ∧ t'.ans.length ≤ t'.i) (fun _ wr => measB t.ops.length tb wr)
  case atStart => exact ⟨t, ow, va, h0, Lib.hid rfl, Lib.hid rfl, hi, hans⟩
  case round =>
    obtain ⟨t', ow', va', HS, HE, HO, hi', hans'⟩ := hrel
    have hops' : t'.ops.length ≤ 65536 := by rw [HO.out]; exact hops
    obtain ⟨vp, vc, hvo⟩ := slice_of HS.out.th.rowO
    have c0 := HS.out.cell 0
    have c1 := HS.out.cell 1
    have c2 := HS.out.cell 2
    have c13 := HS.out.cell 13
    have z13 := HS.out.free 13
    simp only [thC, List.getElem?_cons_zero, List.getElem?_cons_succ] at c0 c1 c2 c13
    rw [hvo] at c0
    have hvo' := Lib.hid hvo
    clear hvo
    by_cases hc : t'.pc = 0 ∧ t'.i < t'.ops.length
    · obtain ⟨hp, hlt⟩ := hc
      have hlt' : (t'.i : Int) < (t'.ops.length : Int) := by omega
      generalize hq : opR t'.ops t'.i = q at *
      obtain ⟨pk, pa, pb, pc⟩ := q
      have HO1 := Lib.hid (op_at HS.out.drew.th hlt hq)
      replace hq := Lib.hid hq
      go_upto_region 0 with fail
      go_region
      clear c0 c1 c2 c13 z13
      go_upto_region 2 with (go_at_call 48; refine HO1.out.mono ?_; rintro e w1 ⟨rfl, g1⟩; have G1 := Lib.hid (HS.out.drew.trans g1); clear g1)
      have E1 := heap_alloc_new w1 (.cells #[.int .i64 pk, .int .i64 pa, .int .i64 pb, .int .i64 pc] 94)
      have G2 := G1.out.alloc (.cells #[.int .i64 pk, .int .i64 pa, .int .i64 pb, .int .i64 pc] 94)
      generalize w1.alloc (.cells #[.int .i64 pk, .int .i64 pa, .int .i64 pb, .int .i64 pc] 94) = w2 at *
      generalize w1.heap.size = B at *
      have z3 := G2.free 3
      have d3 := G2.cell 3
      have z4 := G2.free 4
      have d4 := G2.cell 4
      simp only [thC, List.getElem?_cons_zero, List.getElem?_cons_succ] at d3 d4
      have G3 := G2.put 3 (.int .i64 0) (t'' := { t' with n0 := 0 }) rfl rfl rfl
      have G4 := G3.put 4 (.int .i64 0) (t'' := { t' with n0 := 0, n1 := 0 }) rfl rfl rfl
      have hBt : B ≠ tb := fun z => by rw [z, G2.th.blk] at E1; simp at E1
      have E4 : ((w2.setCell ⟨tb, 3, none⟩ (.int .i64 0)).setCell ⟨tb, 4, none⟩ (.int .i64 0)).heap[B]? = some (.cells #[.int .i64 pk, .int .i64 pa, .int .i64 pb, .int .i64 pc] 94 (0, 0)) := by
        rw [Below.heap_setCell _ _ _ _ hBt, Below.heap_setCell _ _ _ _ hBt]; exact E1
      go_upto_region 5 with fail
      generalize (w2.setCell ⟨tb, 3, none⟩ (.int .i64 0)).setCell ⟨tb, 4, none⟩ (.int .i64 0) = w4 at *
      clear z3 d3 z4 d4 G3 G2
      have b0 : w4.cell? ⟨B, 0, none⟩ = some (.int .i64 pk) := by rw [cellAt E4 0]; rfl
      have b1 : w4.cell? ⟨B, 1, none⟩ = some (.int .i64 pa) := by rw [cellAt E4 1]; rfl
      have b2 : w4.cell? ⟨B, 2, none⟩ = some (.int .i64 pb) := by rw [cellAt E4 2]; rfl
      have b3 : w4.cell? ⟨B, 3, none⟩ = some (.int .i64 pc) := by rw [cellAt E4 3]; rfl
      obtain ⟨wp, wc, hvw⟩ := slice_of hM.out.rowW
      have M4 := hM.out.thS h.out G4
      have m0 : w4.cell? ⟨mb, 0, none⟩ = some (.slice wp ws.length wc) := by rw [← hvw, cellAt M4.blk 0]; rfl
      have close : Hid (∀ ow5 va5 w5, ThS base ow j tb vo va w ow5 va5 (begin1 ws.length t') w5 → (∃ (t'' : RT) (ow'' : Nat → Nat) (va'' : Value), Hid (ThS base ow j tb vo va w ow'' va'' t'' w5) ∧ Hid (beginT ws.length t'' = beginT ws.length t) ∧ Hid (t''.ops = t.ops) ∧ t''.i ≤ t''.ops.length ∧ t''.ans.length ≤ t''.i) ∧ measB t.ops.length tb w5 < measB t.ops.length tb wr) := Lib.hid fun ow5 va5 w5 g => by
        have ho := begin1_ops ws.length t'
        have n5 := natAt_i g
        have n4 := natAt_i HS.out
        have hto := HO.out
        refine ⟨⟨_, ow5, va5, Lib.hid g, Lib.hid ((beginT_step ⟨hp, hlt⟩).symm.trans HE.out), Lib.hid (ho.trans hto), ?_, ?_⟩, ?_⟩
        · rw [ho]; rcases begin1_i ws.length t' with ⟨a, b, c⟩ | ⟨a, b, c⟩ <;> omega
        · rcases begin1_i ws.length t' with ⟨a, b, c⟩ | ⟨a, b, c⟩
          · omega
          · rw [c, a]; exact hans'
        · unfold measB
          rw [n5.1, n5.2, n4.1, n4.2, hp]
          rcases begin1_i ws.length t' with ⟨a, b, c⟩ | ⟨a, b, c⟩
          · rw [a, b]
            simp only [Int.natAbs_zero, if_true]
            rw [← hto]; omega
          · rw [a, if_neg (by omega)]
            simp only [Int.natAbs_zero, if_true]
            omega
      by_cases k1 : pk = 1
      · subst k1
        by_cases a1 : pc < 1
        · -- no such way
          have HE1 := end_walk G4.th (Nat.le_trans hb G4.size) (by show t'.ans.length ≤ 100000; omega) (by show t'.i ≤ 100000; omega) (false, 2)
          simp only at HE1
          replace HE1 := Lib.hid HE1
          replace G4 := Lib.hid G4
          go_wp2_with (go_at_call 49; refine HE1.out.mono ?_; rintro e w5 ⟨rfl, ow5, va5, g5⟩; have G5 := Lib.hid (G4.out.trans g5); clear g5)
          refine close.out ow5 va5 w5 ?_
          have hb1 : begin1 ws.length t' = endT { t' with n0 := 0, n1 := 0 } (false, 2) := by
            unfold begin1
            rw [hq.out]
            exact if_pos ⟨rfl, .inl a1⟩
          rw [hb1]
          exact G5.out
        · by_cases a2 : 3 < pc
          · -- no such way
            have HE1 := end_walk G4.th (Nat.le_trans hb G4.size) (by show t'.ans.length ≤ 100000; omega) (by show t'.i ≤ 100000; omega) (false, 2)
            simp only at HE1
            replace HE1 := Lib.hid HE1
            replace G4 := Lib.hid G4
            go_wp2_with (go_at_call 49; refine HE1.out.mono ?_; rintro e w5 ⟨rfl, ow5, va5, g5⟩; have G5 := Lib.hid (G4.out.trans g5); clear g5)
            refine close.out ow5 va5 w5 ?_
            have hb1 : begin1 ws.length t' = endT { t' with n0 := 0, n1 := 0 } (false, 2) := by
              unfold begin1
              rw [hq.out]
              exact if_pos ⟨rfl, .inr a2⟩
            rw [hb1]
            exact G5.out
          · by_cases l0 : ws.length = 0
            · have l0' : (ws.length : Int) = 0 := by omega
              have HE1 := end_walk G4.th (Nat.le_trans hb G4.size) (by show t'.ans.length ≤ 100000; omega) (by show t'.i ≤ 100000; omega) (false, 6)
              simp only at HE1
              replace HE1 := Lib.hid HE1
              replace G4 := Lib.hid G4
              go_wp2_with (go_at_call 49; refine HE1.out.mono ?_; rintro e w5 ⟨rfl, ow5, va5, g5⟩; have G5 := Lib.hid (G4.out.trans g5); clear g5)
              refine close.out ow5 va5 w5 ?_
              have hb1 : begin1 ws.length t' = endT { t' with n0 := 0, n1 := 0 } (false, 6) := by
                unfold begin1
                rw [hq.out]
                rw [if_neg (by simp only; omega)]; exact if_pos ⟨rfl, l0⟩
              rw [hb1]
              exact G5.out
            · have l0' : ¬ (ws.length : Int) = 0 := by omega
              have z2 := G4.free 2
              have d2 := G4.cell 2
              simp only [thC, List.getElem?_cons_zero, List.getElem?_cons_succ] at d2
              have G5 := Lib.hid (G4.put 2 (.int .i64 (10)) (t'' := { t' with n0 := 0, n1 := 0, pc := 10 }) rfl rfl rfl)
              replace G4 := Lib.hid G4
              go_wp2_with fail
              refine close.out ow' va' _ ?_
              have hb1 : begin1 ws.length t' = { t' with n0 := 0, n1 := 0, pc := 10 } := by
                unfold begin1
                rw [hq.out]
                rw [if_neg (by simp only; omega), if_neg (fun z => l0 z.2), if_neg (by simp), if_pos (by simp)]; rfl
              rw [hb1]
              exact G5.out
      · by_cases k2 : pk = 2
        · subst k2
          by_cases l0 : ws.length = 0
          · have l0' : (ws.length : Int) = 0 := by omega
            have HE1 := end_walk G4.th (Nat.le_trans hb G4.size) (by show t'.ans.length ≤ 100000; omega) (by show t'.i ≤ 100000; omega) (true, -1)
            simp only at HE1
            replace HE1 := Lib.hid HE1
            replace G4 := Lib.hid G4
            go_wp2_with (go_at_call 49; refine HE1.out.mono ?_; rintro e w5 ⟨rfl, ow5, va5, g5⟩; have G5 := Lib.hid (G4.out.trans g5); clear g5)
            refine close.out ow5 va5 w5 ?_
            have hb1 : begin1 ws.length t' = endT { t' with n0 := 0, n1 := 0 } (true, -1) := by
              unfold begin1
              rw [hq.out]
              rw [if_neg (by simp), if_neg (by simp)]; exact if_pos ⟨rfl, l0⟩
            rw [hb1]
            exact G5.out
          · have l0' : ¬ (ws.length : Int) = 0 := by omega
            have z2 := G4.free 2
            have d2 := G4.cell 2
            simp only [thC, List.getElem?_cons_zero, List.getElem?_cons_succ] at d2
            have G5 := Lib.hid (G4.put 2 (.int .i64 (20)) (t'' := { t' with n0 := 0, n1 := 0, pc := 20 }) rfl rfl rfl)
            replace G4 := Lib.hid G4
            go_wp2_with fail
            refine close.out ow' va' _ ?_
            have hb1 : begin1 ws.length t' = { t' with n0 := 0, n1 := 0, pc := 20 } := by
              unfold begin1
              rw [hq.out]
              rw [if_neg (by simp), if_neg (by simp), if_neg (fun z => l0 z.2), if_pos (by simp)]; rfl
            rw [hb1]
            exact G5.out
        · by_cases k35 : 3 ≤ pk ∧ pk ≤ 5
          · obtain ⟨k3, k5⟩ := k35
            have ew : IntKind.i64.wrap (10 * pk) = 10 * pk := by rw [IntKind.wrap_i64]; omega
            have z2 := G4.free 2
            have d2 := G4.cell 2
            simp only [thC, List.getElem?_cons_zero, List.getElem?_cons_succ] at d2
            have G5 := Lib.hid (G4.put 2 (.int .i64 (10 * pk)) (t'' := { t' with n0 := 0, n1 := 0, pc := 10 * pk }) rfl rfl rfl)
            replace G4 := Lib.hid G4
            go_wp2_with fail
            refine close.out ow' va' _ ?_
            have hb1 : begin1 ws.length t' = { t' with n0 := 0, n1 := 0, pc := 10 * pk } := by
              unfold begin1
              rw [hq.out]
              rw [if_neg (fun z => k1 z.1), if_neg (fun z => k1 z.1), if_neg (fun z => k2 z.1), if_pos ⟨by simp only; omega, k5⟩]
            rw [hb1]
            exact G5.out
          · by_cases k67 : pk = 6 ∨ pk = 7
            · have ew : IntKind.i64.wrap (10 * pk) = 10 * pk := by rw [IntKind.wrap_i64]; omega
              have k3 : 3 ≤ pk := by omega
              have k5 : ¬ pk ≤ 5 := by omega
              by_cases a0 : 0 ≤ pa
              · by_cases a1 : pa < (ws.length : Int)
                · by_cases k6 : pk = 6
                  · subst k6
                    have D4 := G4.drew
                    replace G4 := Lib.hid G4
                    go_upto_region 15 with fail
                    go_region
                    have b0' : w4.drew.cell? ⟨B, 0, none⟩ = some (.int .i64 6) := by rw [cellAt (w := w4.drew) E4 0]; rfl
                    have G4 := D4
                    generalize w4.drew = w6 at *
                    have z2 := G4.free 2
                    have d2 := G4.cell 2
                    simp only [thC, List.getElem?_cons_zero, List.getElem?_cons_succ] at d2
                    have G5 := Lib.hid (G4.put 2 (.int .i64 (60)) (t'' := { t' with n0 := 0, n1 := 0, pc := 60 }) rfl rfl rfl)
                    replace G4 := Lib.hid G4
                    go_wp2_with fail
                    refine close.out ow' va' _ ?_
                    have hb1 : begin1 ws.length t' = { t' with n0 := 0, n1 := 0, pc := 60 } := by
                      unfold begin1
                      rw [hq.out]
                      rw [if_neg (by simp), if_neg (by simp), if_neg (by simp), if_neg (by simp), if_pos ⟨.inl rfl, a0, a1⟩]; rfl
                    rw [hb1]
                    exact G5.out
                  · have k7 : pk = 7 := by omega
                    subst k7
                    have D4 := G4.drew
                    replace G4 := Lib.hid G4
                    go_upto_region 15 with fail
                    go_region
                    have b0' : w4.drew.cell? ⟨B, 0, none⟩ = some (.int .i64 7) := by rw [cellAt (w := w4.drew) E4 0]; rfl
                    have G4 := D4
                    generalize w4.drew = w6 at *
                    have z2 := G4.free 2
                    have d2 := G4.cell 2
                    simp only [thC, List.getElem?_cons_zero, List.getElem?_cons_succ] at d2
                    have G5 := Lib.hid (G4.put 2 (.int .i64 (70)) (t'' := { t' with n0 := 0, n1 := 0, pc := 70 }) rfl rfl rfl)
                    replace G4 := Lib.hid G4
                    go_wp2_with fail
                    refine close.out ow' va' _ ?_
                    have hb1 : begin1 ws.length t' = { t' with n0 := 0, n1 := 0, pc := 70 } := by
                      unfold begin1
                      rw [hq.out]
                      rw [if_neg (by simp), if_neg (by simp), if_neg (by simp), if_neg (by simp), if_pos ⟨.inr rfl, a0, a1⟩]; rfl
                    rw [hb1]
                    exact G5.out
                · by_cases k6 : pk = 6
                  · subst k6
                    have D4 := G4.drew
                    replace G4 := Lib.hid G4
                    go_upto_region 15 with fail
                    go_region
                    have G4' := D4
                    generalize w4.drew = w6 at *
                    have HE1 := end_walk G4'.th (Nat.le_trans hb G4'.size) (by show t'.ans.length ≤ 100000; omega) (by show t'.i ≤ 100000; omega) (false, 0)
                    simp only at HE1
                    replace HE1 := Lib.hid HE1
                    replace G4' := Lib.hid G4'
                    go_wp2_with (go_at_call 49; refine HE1.out.mono ?_; rintro e w5 ⟨rfl, ow5, va5, g5⟩; have G5 := Lib.hid (G4'.out.trans g5); clear g5)
                    refine close.out ow5 va5 w5 ?_
                    have hb1 : begin1 ws.length t' = endT { t' with n0 := 0, n1 := 0 } (false, 0) := by
                      unfold begin1
                      rw [hq.out]
                      rw [if_neg (by simp), if_neg (by simp), if_neg (by simp), if_neg (by simp), if_neg (by rintro ⟨_, _, z⟩; try simp only at z; omega)]
                    rw [hb1]
                    exact G5.out
                  · have k7 : pk = 7 := by omega
                    subst k7
                    have D4 := G4.drew
                    replace G4 := Lib.hid G4
                    go_upto_region 15 with fail
                    go_region
                    have G4' := D4
                    generalize w4.drew = w6 at *
                    have HE1 := end_walk G4'.th (Nat.le_trans hb G4'.size) (by show t'.ans.length ≤ 100000; omega) (by show t'.i ≤ 100000; omega) (false, 0)
                    simp only at HE1
                    replace HE1 := Lib.hid HE1
                    replace G4' := Lib.hid G4'
                    go_wp2_with (go_at_call 49; refine HE1.out.mono ?_; rintro e w5 ⟨rfl, ow5, va5, g5⟩; have G5 := Lib.hid (G4'.out.trans g5); clear g5)
                    refine close.out ow5 va5 w5 ?_
                    have hb1 : begin1 ws.length t' = endT { t' with n0 := 0, n1 := 0 } (false, 0) := by
                      unfold begin1
                      rw [hq.out]
                      rw [if_neg (by simp), if_neg (by simp), if_neg (by simp), if_neg (by simp), if_neg (by rintro ⟨_, _, z⟩; try simp only at z; omega)]
                    rw [hb1]
                    exact G5.out
              · by_cases k6 : pk = 6
                · subst k6
                  have D4 := G4.drew
                  replace G4 := Lib.hid G4
                  go_upto_region 15 with fail
                  go_region
                  have G4' := D4
                  generalize w4.drew = w6 at *
                  have HE1 := end_walk G4'.th (Nat.le_trans hb G4'.size) (by show t'.ans.length ≤ 100000; omega) (by show t'.i ≤ 100000; omega) (false, 0)
                  simp only at HE1
                  replace HE1 := Lib.hid HE1
                  replace G4' := Lib.hid G4'
                  go_wp2_with (go_at_call 49; refine HE1.out.mono ?_; rintro e w5 ⟨rfl, ow5, va5, g5⟩; have G5 := Lib.hid (G4'.out.trans g5); clear g5)
                  refine close.out ow5 va5 w5 ?_
                  have hb1 : begin1 ws.length t' = endT { t' with n0 := 0, n1 := 0 } (false, 0) := by
                    unfold begin1
                    rw [hq.out]
                    rw [if_neg (by simp), if_neg (by simp), if_neg (by simp), if_neg (by simp), if_neg (by rintro ⟨_, z, _⟩; try simp only at z; omega)]
                  rw [hb1]
                  exact G5.out
                · have k7 : pk = 7 := by omega
                  subst k7
                  have D4 := G4.drew
                  replace G4 := Lib.hid G4
                  go_upto_region 15 with fail
                  go_region
                  have G4' := D4
                  generalize w4.drew = w6 at *
                  have HE1 := end_walk G4'.th (Nat.le_trans hb G4'.size) (by show t'.ans.length ≤ 100000; omega) (by show t'.i ≤ 100000; omega) (false, 0)
                  simp only at HE1
                  replace HE1 := Lib.hid HE1
                  replace G4' := Lib.hid G4'
                  go_wp2_with (go_at_call 49; refine HE1.out.mono ?_; rintro e w5 ⟨rfl, ow5, va5, g5⟩; have G5 := Lib.hid (G4'.out.trans g5); clear g5)
                  refine close.out ow5 va5 w5 ?_
                  have hb1 : begin1 ws.length t' = endT { t' with n0 := 0, n1 := 0 } (false, 0) := by
                    unfold begin1
                    rw [hq.out]
                    rw [if_neg (by simp), if_neg (by simp), if_neg (by simp), if_neg (by simp), if_neg (by rintro ⟨_, z, _⟩; try simp only at z; omega)]
                  rw [hb1]
                  exact G5.out
            · have k6 : ¬ pk = 6 := fun z => k67 (.inl z)
              have k7 : ¬ pk = 7 := fun z => k67 (.inr z)
              by_cases k3 : 3 ≤ pk
              · have k5 : ¬ pk ≤ 5 := by omega
                have D4 := G4.drew
                replace G4 := Lib.hid G4
                go_upto_region 15 with fail
                have hb6 : (pk == 6) = false := by simpa using k6
                have hb7 : (pk == 7) = false := by simpa using k7
                go_region
                have G4' := D4
                generalize w4.drew = w6 at *
                have HE1 := end_walk G4'.th (Nat.le_trans hb G4'.size) (by show t'.ans.length ≤ 100000; omega) (by show t'.i ≤ 100000; omega) (false, 0)
                simp only at HE1
                replace HE1 := Lib.hid HE1
                replace G4' := Lib.hid G4'
                go_wp2_with (go_at_call 49; refine HE1.out.mono ?_; rintro e w5 ⟨rfl, ow5, va5, g5⟩; have G5 := Lib.hid (G4'.out.trans g5); clear g5)
                refine close.out ow5 va5 w5 ?_
                have hb1 : begin1 ws.length t' = endT { t' with n0 := 0, n1 := 0 } (false, 0) := by
                  unfold begin1
                  rw [hq.out]
                  rw [if_neg (fun z => k1 z.1), if_neg (fun z => k1 z.1), if_neg (fun z => k2 z.1), if_neg (by simp only; omega), if_neg (fun z => k67 z.1)]
                rw [hb1]
                exact G5.out
              · have k35' := Lib.hid (show ¬ (1 ≤ pk ∧ pk ≤ 5) by omega)
                have D4 := G4.drew
                replace G4 := Lib.hid G4
                go_upto_region 15 with fail
                have hb6 : (pk == 6) = false := by simpa using k6
                have hb7 : (pk == 7) = false := by simpa using k7
                go_region
                have G4' := D4
                generalize w4.drew = w6 at *
                have HE1 := end_walk G4'.th (Nat.le_trans hb G4'.size) (by show t'.ans.length ≤ 100000; omega) (by show t'.i ≤ 100000; omega) (false, 0)
                simp only at HE1
                replace HE1 := Lib.hid HE1
                replace G4' := Lib.hid G4'
                go_wp2_with (go_at_call 49; refine HE1.out.mono ?_; rintro e w5 ⟨rfl, ow5, va5, g5⟩; have G5 := Lib.hid (G4'.out.trans g5); clear g5)
                refine close.out ow5 va5 w5 ?_
                have hb1 : begin1 ws.length t' = endT { t' with n0 := 0, n1 := 0 } (false, 0) := by
                  unfold begin1
                  rw [hq.out]
                  rw [if_neg (fun z => k1 z.1), if_neg (fun z => k1 z.1), if_neg (fun z => k2 z.1), if_neg k35'.out, if_neg (fun z => k67 z.1)]
                rw [hb1]
                exact G5.out
    · have hs := beginT_stop (k := ws.length) hc
      by_cases hp : t'.pc = 0
      · have hge : ¬ t'.i < t'.ops.length := fun z => hc ⟨hp, z⟩
        have hge' : ¬ (t'.i : Int) < (t'.ops.length : Int) := by omega
        have H13 := Lib.hid (HS.out.put 13 (.bool true) (t'' := { t' with ended := true }) rfl rfl rfl)
        go_upto_region 0 with fail
        go_region
        go_upto_region 17 with fail
        go_region
        go_wp2_with fail
        go_end0
        refine ⟨rfl, ow', va', ?_⟩
        rw [← HE.out, hs, show decide (t'.ops.length ≤ t'.i) = true from decide_eq_true (by omega)]
        exact H13.out.drew.drew
      · have hpb : (t'.pc == 0) = false := by simpa using hp
        by_cases hlt : t'.i < t'.ops.length
        · have hlt' : (t'.i : Int) < (t'.ops.length : Int) := by omega
          have H13 := Lib.hid (HS.out.put 13 (.bool false) (t'' := { t' with ended := false }) rfl rfl rfl)
          go_upto_region 0 with fail
          go_region
          go_upto_region 17 with fail
          go_region
          go_wp2_with fail
          go_end0
          refine ⟨rfl, ow', va', ?_⟩
          rw [← HE.out, hs, show decide (t'.ops.length ≤ t'.i) = false from decide_eq_false (by omega)]
          exact H13.out.drew.drew
        · have hlt' : ¬ (t'.i : Int) < (t'.ops.length : Int) := by omega
          have H13 := Lib.hid (HS.out.put 13 (.bool true) (t'' := { t' with ended := true }) rfl rfl rfl)
          go_upto_region 0 with fail
          go_region
          go_upto_region 17 with fail
          go_region
          go_wp2_with fail
          go_end0
          refine ⟨rfl, ow', va', ?_⟩
          rw [← HE.out, hs, show decide (t'.ops.length ≤ t'.i) = true from decide_eq_true (by omega)]
          exact H13.out.drew.drew
end
end Go.Proofs.Ytimkkeomdkbcjaa
