/-
  The law ScriptFresh (f9). (The regions in hand-held orders are printed by wip/gen/fresh.py.)
-/
import Derived.Test.YtdmhlhoimaeacaaDoorFreshF
namespace Go.Proofs.YtdmhlhoimaeacaaDoor
open Go.RowKit Go.Maps PL
set_option linter.unusedVariables false

set_option maxRecDepth 100000 in
set_option maxHeartbeats 16000000 in
theorem fresh_law (N : Nat) (tv hv sv : Value) (V : Nat → Value) (S : Scr) (t : Word) (w : World) (hE : Env N w) (hI : ScrIn w tv hv sv V S) (htt : t.length ≤ 1048576) :
    Calls Tryd.prog 9 #[.agg #[tv, hv, sv, .int .i64 S.most], .string ⟨t.toArray⟩] w fun e w' => e = .returned (.bool true) ∧ Below w.heap.size w w' := by
  have hb2 : Below w.heap.size w (w.alloc (.cells #[tv, hv, sv, .int .i64 S.most] 27)) := (Below.refl _ _).alloc (Nat.le_refl _) _
  have HA := Lib.hid (hI.at_.below hb2)
  have HE := Lib.hid (hE.up hb2)
  have HB2 := Lib.hid hb2
  have HX := Lib.hid (heap_alloc_new w (.cells #[tv, hv, sv, .int .i64 S.most] 27))
  obtain ⟨h, htn, hhn, hsn, hvn, z, hN, hti, hti2⟩ := hI
  obtain ⟨pt, ct, rfl, hct, _⟩ := h.tops
  obtain ⟨ph, ch, rfl, hch, _⟩ := h.thrs
  obtain ⟨ps, cs, rfl, hcs, _⟩ := h.sch
  have HTN := Lib.hid htn
  have HSN := Lib.hid hsn
  have HVN := Lib.hid hvn
  have HZ := Lib.hid z
  have HN := Lib.hid hN
  have HT2 := Lib.hid hti2
  have HSZ : Hid ((w.alloc (.cells #[.slice pt S.tops.length ct, .slice ph S.thrs.length ch, .slice ps S.sch.length cs, .int .i64 S.most] 27)).heap.size = w.heap.size + 1) := Lib.hid (by simp)
  clear h z hb2 hN hE hct hch hcs htn hhn hsn hvn hti2
  obtain ⟨i2, hi2, q0, q1, q2⟩ := info_parts info2
  go_enter Tryd.func9, Tryd.ntmps9
  go_upto_region 1 with fail
  generalize w.alloc (.cells #[.slice pt S.tops.length ct, .slice ph S.thrs.length ch, .slice ps S.sch.length cs, .int .i64 S.most] 27) = w0 at *
  generalize hrb : w.heap.size = rb at *
  have HRBE := Lib.hid hrb
  clear hrb
  have HW : Hid (∀ W, Below (rb + 1) w0 W → ScrAt W (.slice pt S.tops.length ct) (.slice ph S.thrs.length ch) (.slice ps S.sch.length cs) V S ∧ Env N W ∧ W.heap[rb]? = some (.cells #[.slice pt S.tops.length ct, .slice ph S.thrs.length ch, .slice ps S.sch.length cs, .int .i64 S.most] 27 (0, 0)) ∧ Below rb w W) := Lib.hid (fun W hW => by
    have h1 : Below w0.heap.size w0 W := by rw [HSZ.out]; exact hW
    exact ⟨HA.out.below h1, HE.out.up h1, (h1.block rb (by have := HSZ.out; omega)).trans HX.out, HB2.out.trans (hW.mono (Nat.le_succ rb))⟩)
  clear HA HE HB2
  have HWN : Hid (∀ W W', Below (rb + 1) w0 W → Below W.heap.size W W' → Below (rb + 1) w0 W') := Lib.hid (fun W W' h1 h2 => h1.trans (h2.mono (by have := h1.size; have := HSZ.out; omega)))
  have HKC : Hid (∀ W, Below (rb + 1) w0 W → W.cell? ⟨rb, 0, none⟩ = some (.slice pt S.tops.length ct) ∧ W.cell? ⟨rb, 1, none⟩ = some (.slice ph S.thrs.length ch) ∧ W.cell? ⟨rb, 2, none⟩ = some (.slice ps S.sch.length cs) ∧ W.cell? ⟨rb, 3, none⟩ = some (.int .i64 S.most)) := Lib.hid (fun W hW => by
    have hx := (HW.out W hW).2.2.1
    exact ⟨(cell_of hx 0).trans rfl, (cell_of hx 1).trans rfl, (cell_of hx 2).trans rfl, (cell_of hx 3).trans rfl⟩)
  have HCP : Hid (∀ W, Below (rb + 1) w0 W → Calls Tryd.prog 16 #[.agg #[.slice pt S.tops.length ct, .slice ph S.thrs.length ch, .slice ps S.sch.length cs, .int .i64 S.most]] W (CopyD S W)) := Lib.hid (fun W hW => copied_walk _ _ _ V S W (HW.out W hW).1 HZ.out HTN.out HSN.out HVN.out)
  have hb0 : Below (rb + 1) w0 w0 := Below.refl _ _
  have HR := Lib.hid (reads_walkS N w0 (HW.out w0 hb0).2.1)
  go_wp2_with fail
  refine HR.out.mono ?_
  rintro e w1 ⟨rfl, hb1⟩
  have HB1 := Lib.hid (HWN.out _ _ hb0 hb1)
  clear hb1 hb0 HR
  obtain ⟨c0, c1, c2, c3⟩ := HKC.out _ HB1.out
  go_wp2_with fail
  refine (HCP.out _ HB1.out).mono ?_
  rintro e w2 ⟨xt, xh, xs, XV, rfl, hrw, hb2⟩
  have HRW := Lib.hid (hrw.base (show rb + 1 ≤ w1.heap.size by have := HB1.out.size; have := HSZ.out; omega))
  have HB2 := Lib.hid (HWN.out _ _ HB1.out hb2)
  obtain ⟨p1, e1, rfl⟩ := own_slice hrw.tops
  obtain ⟨p2, e2, rfl⟩ := own_slice hrw.thrs
  obtain ⟨p3, e3, rfl⟩ := own_slice hrw.sch
  clear hrw hb2 c0 c1 c2 c3 HCP
  have hgx : rb + 1 ≤ w2.heap.size := by have := HB2.out.size; have := HSZ.out; omega
  have HC : Hid (Cpy (w2.alloc (.cells #[.slice p1 S.tops.length e1, .slice p2 S.thrs.length e2, .slice p3 S.sch.length e3, .int .i64 S.most] 27)) (rb + 1) w2.heap.size (.slice p1 S.tops.length e1) (.slice p2 S.thrs.length e2) (.slice p3 S.sch.length e3) XV S) := Lib.hid ⟨heap_alloc_new _ _, HRW.out.alloc _, hgx⟩
  have HB3 := Lib.hid (HWN.out _ _ HB2.out ((Below.refl _ w2).alloc (Nat.le_refl _) (.cells #[.slice p1 S.tops.length e1, .slice p2 S.thrs.length e2, .slice p3 S.sch.length e3, .int .i64 S.most] 27)))
  clear HRW
  go_upto_region 4 with fail
  generalize w2.alloc (.cells #[.slice p1 S.tops.length e1, .slice p2 S.thrs.length e2, .slice p3 S.sch.length e3, .int .i64 S.most] 27) = w3 at *
  generalize w2.heap.size = xb at *
  clear HB2 hgx
  have HZ3 : Hid (rb + 1 ≤ w3.heap.size) := Lib.hid (by have := HB3.out.size; have := HSZ.out; omega)
  have HU : Hid (∀ W, Below w3.heap.size w3 W → Cpy W (rb + 1) xb (.slice p1 S.tops.length e1) (.slice p2 S.thrs.length e2) (.slice p3 S.sch.length e3) XV S ∧ Env N W ∧ Below (rb + 1) w0 W) := Lib.hid (fun W hW =>
    ⟨HC.out.below hW, (HW.out W (HB3.out.trans (hW.mono HZ3.out))).2.1, HB3.out.trans (hW.mono HZ3.out)⟩)
  have HUK : Hid (∀ W, Below w3.heap.size w3 W → W.cell? ⟨xb, 0, none⟩ = some (.slice p1 S.tops.length e1) ∧ W.cell? ⟨xb, 1, none⟩ = some (.slice p2 S.thrs.length e2) ∧ W.cell? ⟨xb, 2, none⟩ = some (.slice p3 S.sch.length e3) ∧ W.cell? ⟨xb, 3, none⟩ = some (.int .i64 S.most)) := Lib.hid (fun W hW => by
    have h1 := (HU.out W hW).1.head
    exact ⟨(cell_of h1 0).trans rfl, (cell_of h1 1).trans rfl, (cell_of h1 2).trans rfl, (cell_of h1 3).trans rfl⟩)
  have HUN : Hid (∀ W W', Below w3.heap.size w3 W → Below W.heap.size W W' → Below w3.heap.size w3 W') := Lib.hid (fun W W' h1 h2 => h1.trans (h2.mono h1.size))
  have HXN : Hid (∀ i n c, i < S.thrs.length → XV i = .slice none n c → n = 0 ∧ c = 0) := Lib.hid (fun i n c hi e => own_nil (HC.out.rows.each i hi) e)
  have HTX : Hid (∀ W, Below w3.heap.size w3 W → Calls Tryd.prog 24 #[.agg #[.slice p1 S.tops.length e1, .slice p2 S.thrs.length e2, .slice p3 S.sch.length e3, .int .i64 S.most]] W (ThreadsD S W)) := Lib.hid (fun W hW => threads_walk _ _ _ XV S W (HU.out W hW).1.rows.read HZ.out HXN.out)
  have HSX : Hid (∀ W, Below w3.heap.size w3 W → Calls Tryd.prog 22 #[.agg #[.slice p1 S.tops.length e1, .slice p2 S.thrs.length e2, .slice p3 S.sch.length e3, .int .i64 S.most]] W (StartD S W)) := Lib.hid (fun W hW => start_walk _ _ _ XV S W (HU.out W hW).1.rows.read HZ.out)
  refine wp_region_held_drew (S := fun w' => w'.cell? ⟨xb, 0, none⟩ = some (.slice p1 S.tops.length e1) ∧ w'.cell? ⟨xb, 1, none⟩ = some (.slice p2 S.thrs.length e2) ∧ w'.cell? ⟨xb, 2, none⟩ = some (.slice p3 S.sch.length e3) ∧ w'.cell? ⟨xb, 3, none⟩ = some (.int .i64 S.most)) (by kernel_rfl) (HUK.out _ (Below.refl w3.heap.size w3).drew) (fun hHeld => ?_)
  have hbw0 := (Below.refl w3.heap.size w3).drew
  generalize hv0 : w3.drew = v0 at *
  refine takeH (i := 0) (v := ?v1) rfl (by kernel_rfl) (by kernel_rfl) (by kernel_rfl) (fun _ _ _ h => h) (by rfl) (by assumption) ?hy1 ?rest1
  case hy1 => (intro w hSw; (try dsimp only at hSw); first | (go_simp; done) | (go_simp; with_reducible rfl))
  try simp only [Act.put, List.setIfInBounds_toArray, List.set_cons_zero, List.set_cons_succ]
  refine takeH (i := 2) (v := ?v2) rfl (by kernel_rfl) (by kernel_rfl) (by kernel_rfl) (fun _ _ _ h => h) (by rfl) (by assumption) ?hy2 ?rest2
  case hy2 => (intro w hSw; (try dsimp only at hSw); first | (go_simp; done) | (go_simp; with_reducible rfl))
  try simp only [Act.put, List.setIfInBounds_toArray, List.set_cons_zero, List.set_cons_succ]
  refine wpAnyH_ready (rs := [1]) (by kernel_rfl) (by simp) (consH rfl (fun K hK => ?_) AllReadyH.nil)
  go_simp
  go_at_call 24
  refine (HTX.out v0 hbw0).mono ?_
  rintro e v1 ⟨l1, m1, LA, rfl, hl1, hb'⟩
  have hbw1 := HUN.out _ _ hbw0 hb'
  have hs1 := hb'
  refine hK.out _ _ (HUK.out _ hbw1) (fun hHeld => ?_)
  clear hK K hb' hbw0
  try simp only [Act.put, List.setIfInBounds_toArray, List.set_cons_zero, List.set_cons_succ]
  refine wpAnyH_ready (rs := [3]) (by kernel_rfl) (by simp) (consH rfl (fun K hK => ?_) AllReadyH.nil)
  go_simp
  go_at_call 24
  refine (HTX.out v1 hbw1).mono ?_
  rintro e v2 ⟨l2, m2, LB, rfl, hl2, hb'⟩
  have hbw2 := HUN.out _ _ hbw1 hb'
  have hs2 := hb'
  refine hK.out _ _ (HUK.out _ hbw2) (fun hHeld => ?_)
  clear hK K hb' hbw1
  try simp only [Act.put, List.setIfInBounds_toArray, List.set_cons_zero, List.set_cons_succ]
  refine wpAnyH_ready (rs := [4]) (by kernel_rfl) (by simp) (consH rfl (fun K hK => ?_) AllReadyH.nil)
  go_simp
  refine hK.out _ _ hHeld (fun hHeld => ?_)
  clear hK K
  try simp only [Act.put, List.setIfInBounds_toArray, List.set_cons_zero, List.set_cons_succ]
  refine wpAnyH_ready (rs := [5]) (by kernel_rfl) (by simp) (consH rfl (fun K hK => ?_) AllReadyH.nil)
  go_simp
  refine hK.out _ _ hHeld (fun hHeld => ?_)
  clear hK K
  try simp only [Act.put, List.setIfInBounds_toArray, List.set_cons_zero, List.set_cons_succ]
  refine wpAnyH_done (by kernel_rfl) ?_ _
  have hv0s : w3.heap.size ≤ v0.heap.size := by rw [← hv0]; exact Nat.le_refl _
  have hv0b : Below w3.heap.size w3 v0 := by rw [← hv0]; exact (Below.refl _ _).drew
  clear hHeld hv0
  have HB4 := Lib.hid hbw2
  have HL1 := Lib.hid hl1
  have HL2 := Lib.hid hl2
  have HS1 := Lib.hid hs1
  have HS2 := Lib.hid hs2
  have hv01 : w3.heap.size ≤ v0.heap.size := hv0s
  have hv12 : v0.heap.size ≤ v1.heap.size := hs1.size
  have hv23 : v1.heap.size ≤ v2.heap.size := hs2.size
  clear hbw2 hl1 hl2 hs1 hs2 hv0s
  go_upto_region 5 with fail
  refine wp_region_held_drew (S := fun w' => w'.cell? ⟨xb, 0, none⟩ = some (.slice p1 S.tops.length e1) ∧ w'.cell? ⟨xb, 1, none⟩ = some (.slice p2 S.thrs.length e2) ∧ w'.cell? ⟨xb, 2, none⟩ = some (.slice p3 S.sch.length e3) ∧ w'.cell? ⟨xb, 3, none⟩ = some (.int .i64 S.most)) (by kernel_rfl) (HUK.out _ HB4.out.drew) (fun hHeld => ?_)
  have hbw0 := HB4.out.drew
  generalize hv0 : v2.drew = u0 at *
  refine takeH (i := 0) (v := ?v3) rfl (by kernel_rfl) (by kernel_rfl) (by kernel_rfl) (fun _ _ _ h => h) (by rfl) (by assumption) ?hy3 ?rest3
  case hy3 => (intro w hSw; (try dsimp only at hSw); first | (go_simp; done) | (go_simp; with_reducible rfl))
  try simp only [Act.put, List.setIfInBounds_toArray, List.set_cons_zero, List.set_cons_succ]
  refine takeH (i := 2) (v := ?v4) rfl (by kernel_rfl) (by kernel_rfl) (by kernel_rfl) (fun _ _ _ h => h) (by rfl) (by assumption) ?hy4 ?rest4
  case hy4 => (intro w hSw; (try dsimp only at hSw); first | (go_simp; done) | (go_simp; with_reducible rfl))
  try simp only [Act.put, List.setIfInBounds_toArray, List.set_cons_zero, List.set_cons_succ]
  refine wpAnyH_ready (rs := [1]) (by kernel_rfl) (by simp) (consH rfl (fun K hK => ?_) AllReadyH.nil)
  go_simp
  go_at_call 22
  refine (HSX.out u0 hbw0).mono ?_
  rintro e u1 ⟨y1, z1, rfl, ha1, hb'⟩
  have hbw1 := HUN.out _ _ hbw0 hb'
  have hs1 := hb'
  refine hK.out _ _ (HUK.out _ hbw1) (fun hHeld => ?_)
  clear hK K hb' hbw0
  try simp only [Act.put, List.setIfInBounds_toArray, List.set_cons_zero, List.set_cons_succ]
  refine wpAnyH_ready (rs := [3]) (by kernel_rfl) (by simp) (consH rfl (fun K hK => ?_) AllReadyH.nil)
  go_simp
  go_at_call 22
  refine (HSX.out u1 hbw1).mono ?_
  rintro e u2 ⟨y2, z2, rfl, ha2, hb'⟩
  have hbw2 := HUN.out _ _ hbw1 hb'
  have hs2 := hb'
  refine hK.out _ _ (HUK.out _ hbw2) (fun hHeld => ?_)
  clear hK K hb' hbw1
  try simp only [Act.put, List.setIfInBounds_toArray, List.set_cons_zero, List.set_cons_succ]
  refine wpAnyH_ready (rs := [4]) (by kernel_rfl) (by simp) (consH rfl (fun K hK => ?_) AllReadyH.nil)
  go_simp
  refine hK.out _ _ hHeld (fun hHeld => ?_)
  clear hK K
  try simp only [Act.put, List.setIfInBounds_toArray, List.set_cons_zero, List.set_cons_succ]
  refine wpAnyH_ready (rs := [5]) (by kernel_rfl) (by simp) (consH rfl (fun K hK => ?_) AllReadyH.nil)
  go_simp
  refine hK.out _ _ hHeld (fun hHeld => ?_)
  clear hK K
  try simp only [Act.put, List.setIfInBounds_toArray, List.set_cons_zero, List.set_cons_succ]
  refine wpAnyH_done (by kernel_rfl) ?_ _
  have hu0s : v2.heap.size ≤ u0.heap.size := by rw [← hv0]; exact Nat.le_refl _
  have hu0b : Below v2.heap.size v2 u0 := by rw [← hv0]; exact (Below.refl _ _).drew
  clear hHeld hv0
  have HB5 := Lib.hid hbw2
  have HA1 := Lib.hid ha1
  have HA2 := Lib.hid ha2
  have HS3 := Lib.hid hs1
  have HS4 := Lib.hid hs2
  clear hbw2 ha1 ha2 hs1 hs2
  have hu23 : u0.heap.size ≤ u1.heap.size := HS3.out.size
  have hu34 : u1.heap.size ≤ u2.heap.size := HS4.out.size
  have HB12 : Hid (Below v1.heap.size v1 u2) := Lib.hid (by
    have h0 : Below v2.heap.size v2 u0 := hu0b
    exact HS2.out.trans ((h0.trans ((HS3.out.mono (by omega)).trans (HS4.out.mono (by omega)))).mono (by omega)))
  have HB22 : Hid (Below v2.heap.size v2 u2) := Lib.hid (by
    have h0 : Below v2.heap.size v2 u0 := hu0b
    exact h0.trans ((HS3.out.mono (by omega)).trans (HS4.out.mono (by omega))))
  clear hu0b
  have HWR : Hid (Writ u2 v0.heap.size v1.heap.size 56 1 0 (.slice l1 S.thrs.length m1) LA S.thrs.length (fun i => (S.thrs.getD i default).ops.length) 0) := Lib.hid (by
    have h := HL1.out
    have h2 := h.below HB12.out
    refine ⟨⟨_, h2.row, fun j _ hj => ?_⟩, fun q hq => (h.row.lt q hq).2, fun j _ hj => ⟨_, h2.each j hj⟩, fun j _ hj q hq => ((h.each j hj).lt q hq).2, fun j j' _ hj _ hj' hne => h2.apart j j' hj hj' hne⟩
    rw [Nat.mul_one, Nat.add_zero]
    exact vcells_get _ _ _ hj)
  have HZS := Lib.hid (fun i (hi : i < S.thrs.length) => HT2.out.2.2 _ (getD_mem hi))
  have htl : S.thrs.length ≤ 1048576 := HT2.out.1
  generalize hlo : v0.heap.size = lo at *
  generalize hhi : v1.heap.size = hi at *
  obtain ⟨len, hlen⟩ : ∃ len : Nat → Nat, len = fun i => (S.thrs.getD i default).ops.length := ⟨_, rfl⟩
  have HLEN := Lib.hid hlen
  rw [← hlen] at HWR
  have HLB : Hid (∀ i, i < S.thrs.length → len i ≤ 1048576) := Lib.hid (fun i hi => by rw [hlen]; exact HZS.out i hi)
  clear hlen HZS
  obtain ⟨w5, hw5⟩ : ∃ w5, w5 = u2 := ⟨_, rfl⟩
  rw [← hw5] at HWR
  have HW5 := Lib.hid hw5
  rw [← hw5]
  clear hw5
  generalize hnl : S.thrs.length = nl at *
  have HNL := Lib.hid hnl
  clear hnl
  go_wp2_with fail
  go_loopw [39] (fun iv wr => ∃ i : Nat, i ≤ nl ∧ iv = .int .i64 i ∧ Writ wr lo hi 56 1 0 (.slice l1 nl m1) LA nl len i ∧ Zone lo hi w5 wr) (fun iv _ => nl - (intOf iv).toNat)
  case atStart => exact ⟨0, Nat.zero_le _, rfl, HWR.out, Zone.refl _ _ _⟩
  case round =>
    obtain ⟨i, hi1, rfl, hwr, hzr⟩ := hrel
    by_cases hin : i < nl
    · obtain ⟨g, cap, hve⟩ := hwr.at_row (by omega)
      injection hve with hve _ hve2
      subst hve hve2
      have HWI := Lib.hid hwr
      have HZI := Lib.hid hzr
      obtain ⟨pa, ca, hva⟩ := hwr.at_len hin
      have cl1 : wr.cell? ⟨g, i, none⟩ = some (LA i) := by
        have h := hwr.cell hin (by omega)
        rw [Nat.mul_one, Nat.add_zero] at h
        exact h
      rw [hva] at cl1
      have hlb := HLB.out i hin
      have HVA := Lib.hid hva
      clear hwr hzr hva
      generalize hli : len i = li at *
      have HLI := Lib.hid hli
      clear hli
      go_wp2_with fail
      go_loopw [47] (fun iv wq => ∃ j : Nat, j ≤ li ∧ iv = .int .i64 j ∧ Writ wq lo hi 56 1 0 (.slice (some ⟨g, 0, none⟩) nl m1) LA nl len i ∧ Zone lo hi w5 wq) (fun iv _ => li - (intOf iv).toNat)
      case atStart => exact ⟨0, Nat.zero_le _, rfl, HWI.out, HZI.out⟩
      case round =>
        obtain ⟨j, hj1, rfl, hwq, hzq⟩ := hrel
        have HWQ := Lib.hid hwq
        have HZQ := Lib.hid hzq
        have cl2 : wr.cell? ⟨g, i, none⟩ = some (.slice pa li ca) := by
          have h := hwq.cell hin (by omega)
          rw [Nat.mul_one, Nat.add_zero, HVA.out] at h
          exact h
        by_cases hjn : j < li
        · obtain ⟨ga, cga, hpa⟩ := hwq.at_each hin (by rw [HLI.out]; omega)
          rw [HVA.out, HLI.out] at hpa
          injection hpa with hpa _ hpa2
          subst hpa hpa2
          have hva2 : LA i = .slice (some ⟨ga, 0, none⟩) (len i) ca := by rw [HVA.out, HLI.out]
          obtain ⟨⟨n0, k0⟩, f0⟩ := hwq.cellOp hin hva2 (j * 4) (by rw [HLI.out]; omega)
          obtain ⟨⟨n1, k1⟩, f1⟩ := hwq.cellOp hin hva2 (j * 4 + 1) (by rw [HLI.out]; omega)
          obtain ⟨⟨n2, k2⟩, f2⟩ := hwq.cellOp hin hva2 (j * 4 + 2) (by rw [HLI.out]; omega)
          obtain ⟨⟨n3, k3⟩, f3⟩ := hwq.cellOp hin hva2 (j * 4 + 3) (by rw [HLI.out]; omega)
          have HP := Lib.hid (hwq.putOp (by decide) hin hva2 (j * 4) (.int .i64 99))
          have HP1 := Lib.hid (HP.out.1.putOp (by decide) hin hva2 (j * 4 + 1) (.int .i64 0))
          have HP2 := Lib.hid (HP1.out.1.putOp (by decide) hin hva2 (j * 4 + 2) (.int .i64 0))
          have HP3 := Lib.hid (HP2.out.1.putOp (by decide) hin hva2 (j * 4 + 3) (.int .i64 0))
          clear hwq hzq hva2
          go_wp2_with fail
          go_roundw
          case rel => exact ⟨j + 1, by omega, by go_num, HP3.out.1, HZQ.out.trans (HP.out.2.trans (HP1.out.2.trans (HP2.out.2.trans HP3.out.2)))⟩
          case measure => simp [intOf]; omega
        · have hje : j = li := by omega
          subst hje
          obtain ⟨xs, hxs⟩ := hwq.each i (Nat.le_refl _) hin
          rw [HVA.out, HLI.out] at hxs
          obtain ⟨v', w6, hap, hg6⟩ := run_append_zeros (P := Tryd.prog) wr lo 56 3 56 65 under56 Tryd.underlying3 info65 (by omega) (by omega) rfl (ocell_one ⟨0, 0, 0, 0⟩) hxs (by omega) 9 (by omega) (by omega)
          have hg6' : wr.grownBy w6 (LA i).ownBlock := by rw [HVA.out]; exact hg6
          have HN6 := Lib.hid (hwq.next (by decide) hin hg6')
          have HZ6 := Lib.hid (hzq.trans (.of_grown hg6' (hwq.block (Nat.le_refl _) hin)))
          obtain ⟨⟨n0, k0⟩, f0⟩ := HN6.out.slot i (by omega)
          have HP := Lib.hid (HN6.out.store (by decide) (d := i) (by omega) (by omega) (.slice none 0 0))
          clear hxs hg6 hg6' hwq hzq
          go_wp2_with (at_builtin; refine Lib.wpList_append_run _ rfl _ _ _ _ rfl _ _ rfl rfl _ _ hap ?_)
          go_roundw
          case rel => exact ⟨i + 1, by omega, by go_num, HP.out.1, HZ6.out.trans HP.out.2⟩
          case measure => simp [intOf]; omega
    · have hie : i = nl := by omega
      have HZ1 := Lib.hid hzr
      clear hwr hzr hie hi1
      have hlv3 : w3.heap.size ≤ lo := by omega
      have HB6 : Hid (Below w3.heap.size w3 wr) := Lib.hid (by
        have h := HZ1.out.low (by rw [HW5.out]; have h12 := HB12.out.size; omega)
        have h5 : Below w3.heap.size w3 w5 := by rw [HW5.out]; exact HB5.out
        exact h5.trans (h.mono hlv3))
      have hna0 : (startF S).length ≤ 2097152 := by rw [startF_len]; omega
      have HLA6 : Hid (Wrt wr u0.heap.size u1.heap.size 2 1 (.slice y1 (startF S).length z1) (startF S).length) := Lib.hid (by
        have h := own_below HA1.out HS4.out
        rw [← HW5.out] at h
        exact ⟨⟨_, own_zone h (by omega) HZ1.out⟩, fun q hq => (HA1.out.lt q hq).2⟩)
      have HLB6 : Hid (wr.ownsRow u1.heap.size 2 1 (.slice y2 (startF S).length z2) (startF S).length (ncells (startF S))) := Lib.hid (by
        have h := HA2.out
        rw [← HW5.out] at h
        exact own_zone h (by omega) HZ1.out)
      have HLM6 : Hid (CopiesIn wr hi v2.heap.size (.slice l2 nl m2) LB nl S.thrs) := Lib.hid (by
        have h := (CopiesIn.of HL2.out).below HB22.out
        rw [← HW5.out] at h
        exact h.zone HZ1.out (.inl (Nat.le_refl _)))
      have HZ1S : Hid (u1.heap.size ≤ wr.heap.size) := Lib.hid (by have h := HZ1.out.size; rw [HW5.out] at h; omega)
      have hu0s' : v2.heap.size ≤ u0.heap.size := hu0s
      clear HZ1 HWR
      generalize halo : u0.heap.size = alo at *
      generalize hahi : u1.heap.size = ahi at *
      generalize hna : (startF S).length = na at *
      have HNA := Lib.hid hna
      clear hna
      generalize wr = w6 at *
      go_wp2_with fail
      go_loopw [69] (fun iv wq => ∃ i : Nat, i ≤ na ∧ iv = .int .i64 i ∧ Wrt wq alo ahi 2 1 (.slice y1 na z1) na ∧ Zone alo ahi w6 wq) (fun iv _ => na - (intOf iv).toNat)
      case atStart => exact ⟨0, Nat.zero_le _, rfl, HLA6.out, Zone.refl _ _ _⟩
      case round =>
        obtain ⟨i, hi1, rfl, hwq, hzq⟩ := hrel
        by_cases hin : i < na
        · obtain ⟨g, cap, hve⟩ := hwq.at_row (by omega)
          injection hve with hve _ hve2
          subst hve hve2
          obtain ⟨⟨n0, k0⟩, f0⟩ := hwq.slot i (by omega)
          have HP := Lib.hid (hwq.put i (.int .i64 (-7)))
          have HZQ := Lib.hid hzq
          clear hwq hzq
          go_wp2_with fail
          go_roundw
          case rel => exact ⟨i + 1, by omega, by go_num, HP.out.1, HZQ.out.trans HP.out.2⟩
          case measure => simp [intOf]; omega
        · have HZ2 := Lib.hid hzq
          have HWQ := Lib.hid hwq
          clear hwq hzq
          generalize wr = w7 at *
          have hab : alo ≤ ahi := hu23
          have hs7 : alo ≤ w7.heap.size := by
            have h6 := HZ2.out.size
            have h5 := HZ1S.out
            omega
          obtain ⟨ys, hys⟩ := HWQ.out.row
          have HRA := Lib.hid (hys.alloc (.cells #[.int .i64 1, .int .i64 2, .int .i64 3, .int .i64 4, .int .i64 5, .int .i64 6, .int .i64 7, .int .i64 8] 2))
          have HSX8 := Lib.hid (src_eight w7)
          have HMORE : Hid (∀ v' w8, Appended (w7.alloc (.cells #[.int .i64 1, .int .i64 2, .int .i64 3, .int .i64 4, .int .i64 5, .int .i64 6, .int .i64 7, .int .i64 8] 2)) alo 2 1 (.slice y1 na z1) na 8 (ys ++ [.int .i64 1, .int .i64 2, .int .i64 3, .int .i64 4, .int .i64 5, .int .i64 6, .int .i64 7, .int .i64 8]) v' w8 → Zone alo ahi w7 w8) := Lib.hid (fun v' w8 ha =>
            (Zone.of_below ((Below.refl _ w7).alloc (Nat.le_refl _) _)).trans (.of_grown ha.2.1 (fun q hq => ⟨(hys.lt q hq).1, HWQ.out.upto q hq⟩)))
          have HSTEP : Hid (∀ w8, Zone alo ahi w7 w8 → (w8.cell? ⟨xb, 0, none⟩ = some (.slice p1 S.tops.length e1) ∧ w8.cell? ⟨xb, 1, none⟩ = some (.slice p2 nl e2) ∧ w8.cell? ⟨xb, 2, none⟩ = some (.slice p3 S.sch.length e3) ∧ w8.cell? ⟨xb, 3, none⟩ = some (.int .i64 S.most)) ∧ (w8.cell? ⟨rb, 0, none⟩ = some (.slice pt S.tops.length ct) ∧ w8.cell? ⟨rb, 1, none⟩ = some (.slice ph nl ch) ∧ w8.cell? ⟨rb, 2, none⟩ = some (.slice ps S.sch.length cs) ∧ w8.cell? ⟨rb, 3, none⟩ = some (.int .i64 S.most)) ∧ Below w3.heap.size w3 w8 ∧ CopiesIn w8 hi v2.heap.size (.slice l2 nl m2) LB nl S.thrs ∧ w8.ownsRow ahi 2 1 (.slice y2 na z2) na (ncells (startF S))) := Lib.hid (fun w8 h8 => by
            have hz := HZ2.out.trans h8
            have hb : Below w3.heap.size w3 w8 := HB6.out.trans ((hz.low (by have := HZ1S.out; omega)).mono (by omega))
            exact ⟨HUK.out _ hb, HKC.out _ (HU.out _ hb).2.2, hb, HLM6.out.zone hz (.inr (by omega)), own_zone HLB6.out (Nat.le_refl _) hz⟩)
          have HSAM : Hid (∀ W, Below w3.heap.size w3 W → Calls Tryd.prog 26 #[.agg #[.slice p1 S.tops.length e1, .slice p2 nl e2, .slice p3 S.sch.length e3, .int .i64 S.most], .agg #[.slice pt S.tops.length ct, .slice ph nl ch, .slice ps S.sch.length cs, .int .i64 S.most]] W fun e w' => e = .returned (.bool true) ∧ Below W.heap.size W w') := Lib.hid (fun W hW => by
            have h := sameS_walk _ _ _ _ _ _ XV V S S W (HU.out W hW).1.rows.read (HW.out W (HU.out W hW).2.2).1 HZ.out HZ.out
            rw [decide_eq_true rfl] at h
            exact h)
          clear hys
          go_upto_region 22 with fail
          go_wp2_with (at_builtin; go_must (refine wpList_append_row rfl (.tmp 76) (.tmp 77) 50 rfl alo 2 i2 _ 1 8 under50 hi2 q0 q1 (by decide) q2 rfl (.slice y1 na z1) na ys rfl HRA.out 8 [.int .i64 1, .int .i64 2, .int .i64 3, .int .i64 4, .int .i64 5, .int .i64 6, .int .i64 7, .int .i64 8] HSX8.out ?l2 ?b2 ?n2 ?_); go_must (case l2 => (unfold maxLen; omega)); go_must (case b2 => omega); go_must (case n2 => (simp; omega)); intro v' w8 ha; go_must (obtain ⟨vp, vc, rfl⟩ := own_slice ha.1); go_must (have hz := HMORE.out _ _ ha); go_must (have HST := Lib.hid (HSTEP.out _ hz)); go_must (clear ha hz); go_must (obtain ⟨xc0, xc1, xc2, xc3⟩ := HST.out.1); go_must (obtain ⟨sc0, sc1, sc2, sc3⟩ := HST.out.2.1))
          have HB8 := Lib.hid HST.out.2.2.1
          have HLM8 := Lib.hid HST.out.2.2.2.1
          have HLB8 := Lib.hid HST.out.2.2.2.2
          clear HST HSTEP HMORE HLM6 HLB6 HZ2 HRA HSX8 HWQ HLA6
          refine (HSAM.out _ HB8.out).mono ?_
          rintro e w9 ⟨rfl, hb9⟩
          have HB9 := Lib.hid (HUN.out _ _ HB8.out hb9)
          have HB89 := Lib.hid hb9
          clear hb9 xc0 xc1 xc2 xc3 sc0 sc1 sc2 sc3
          obtain ⟨xc0, xc1, xc2, xc3⟩ := HUK.out _ HB9.out
          obtain ⟨sc0, sc1, sc2, sc3⟩ := HKC.out _ (HU.out _ HB9.out).2.2
          go_wp2_with fail
          refine (HSX.out _ HB9.out).mono ?_
          rintro e w10 ⟨y3, z3, rfl, ha3, hb10⟩
          have HB10 := Lib.hid (HUN.out _ _ HB9.out hb10)
          have HB810 : Hid (Below w8.heap.size w8 w10) := Lib.hid (HB89.out.trans (hb10.mono HB89.out.size))
          have HSN3 : Hid (Calls Tryd.prog 21 #[.slice y2 na z2, .slice y3 na z3] w10 fun e w' => e = .returned (.bool true) ∧ ∃ n, w' = w10.drewN n) := Lib.hid (by
            have e1 := HNA.out
            have h1 := own_below HLB8.out HB810.out
            rw [← e1] at h1 ⊢
            have h := sameNums_walk _ _ (startF S) (startF S) w10 (RowAt.of_own h1) (RowAt.of_own ha3) (by omega) (by omega)
            rw [decide_eq_true rfl] at h
            exact h)
          clear ha3 hb10 xc0 xc1 xc2 xc3 sc0 sc1 sc2 sc3
          rw [HNA.out]
          go_wp2_with fail
          refine HSN3.out.mono ?_
          rintro e w11 ⟨rfl, m, rfl⟩
          go_wp2_with fail
          have HB12w := Lib.hid (below_drewN HB10.out m)
          have HLM12 := Lib.hid (HLM8.out.below (below_drewN HB810.out m))
          clear HSN3 HLM8 HLB8 HB8 HB89 HB810 HB9 HB10 HSAM
          generalize w10.drewN m = w12 at *
          go_loopw [100] (fun iv wr => ∃ i : Nat, i ≤ nl ∧ iv = .int .i64 i ∧ Below w12.heap.size w12 wr) (fun iv _ => nl - (intOf iv).toNat)
          case atStart => exact ⟨0, Nat.zero_le _, rfl, Below.refl _ _⟩
          case round =>
            obtain ⟨i, hi1, rfl, hbr⟩ := hrel
            have HBR := Lib.hid hbr
            have HB2r : Hid (Below w3.heap.size w3 wr) := Lib.hid (HB12w.out.trans (hbr.mono HB12w.out.size))
            have hcp := (HLM12.out.below hbr).c
            have hlow := (HU.out wr HB2r.out).2.2
            have hAr := (HW.out wr hlow).1
            clear hbr
            by_cases hin : i < nl
            · obtain ⟨g, o, hpo, cl1⟩ := vcell_at hcp hin
              subst hpo
              have hle := hcp.each i hin
              obtain ⟨pa, ca, hva⟩ := own_slice hle
              obtain ⟨r1, c1, e1, _, hA1⟩ := hAr.thrs
              injection e1 with e11 e12 e13
              subst e11
              have hin2 : i < S.thrs.length := by rw [HNL.out]; exact hin
              obtain ⟨ga, oa, hph, hA2⟩ := hA1.resolve_left (by intro e; have := congrArg List.length e; rw [hcells_length] at this; simp at this; omega)
              subst hph
              obtain ⟨cn, cv2⟩ := hcell_name hA2 hin2
              have hve := hAr.each i hin2
              obtain ⟨pb, cb, hvb, _, _⟩ := hve
              have HSO2 : Hid (∀ W, Below wr.heap.size wr W → Calls Tryd.prog 25 #[LB i, V i] W fun e w' => e = .returned (.bool true) ∧ ∃ n, w' = W.drewN n) := Lib.hid (fun W hW => by
                have hx := sameOps_walk (LB i) (V i) _ _ W ((RowAt.of_own hle).below hW) ((hAr.each i hin2).below hW) (HZ.out.ops _ (getD_mem hin2)) (HZ.out.ops _ (getD_mem hin2))
                rw [decide_eq_true rfl] at hx
                exact hx)
              rw [hva] at cl1 HSO2
              rw [hvb] at cv2 HSO2
              have HKR : Hid (∀ W, Below wr.heap.size wr W → W.cell? ⟨g, o + i, none⟩ = some (.slice pa (S.thrs.getD i default).ops.length ca) ∧ W.cell? ⟨rb, 1, none⟩ = some (.slice (some ⟨ga, oa, none⟩) nl ch) ∧ W.cell? ⟨ga, oa + i * 2 + 1, none⟩ = some (.slice pb (S.thrs.getD i default).ops.length cb)) := Lib.hid (fun W hW =>
                ⟨(hW.cell (World.block_lt_of_cell? wr _ cl1)).trans cl1, (HKC.out W (hlow.trans (hW.mono (by have := hlow.size; have := HSZ.out; omega)))).2.1, (hW.cell (World.block_lt_of_cell? wr _ cv2)).trans cv2⟩)
              clear hle hva hAr hA1 hA2 e12 e13 hvb cn cl1 cv2 hcp hlow
              generalize (S.thrs.getD i default).ops.length = no at *
              go_upto_region 28 with fail
              refine wp_region_held_drew (S := fun w' => w'.cell? ⟨g, o + i, none⟩ = some (.slice pa no ca) ∧ w'.cell? ⟨rb, 1, none⟩ = some (.slice (some ⟨ga, oa, none⟩) nl ch) ∧ w'.cell? ⟨ga, oa + i * 2 + 1, none⟩ = some (.slice pb no cb)) (by kernel_rfl) (HKR.out _ (Below.refl _ _).drew) (fun hHeld => ?_)
              have hbs : Below wr.heap.size wr wr.drew := (Below.refl _ _).drew
              generalize wr.drew = x0 at *
              refine takeH (i := 0) (v := ?v5) rfl (by kernel_rfl) (by kernel_rfl) (by kernel_rfl) (fun _ _ _ h => h) (by rfl) (by assumption) ?hy5 ?rest5
              case hy5 => (intro w hSw; (try dsimp only at hSw); first | (go_simp; done) | (go_simp; with_reducible rfl))
              try simp only [Act.put, List.setIfInBounds_toArray, List.set_cons_zero, List.set_cons_succ]
              refine takeH (i := 1) (v := ?v6) rfl (by kernel_rfl) (by kernel_rfl) (by kernel_rfl) (fun _ _ _ h => h) (by rfl) (by assumption) ?hy6 ?rest6
              case hy6 => (intro w hSw; (try dsimp only at hSw); first | (go_simp; done) | (go_simp; with_reducible rfl))
              try simp only [Act.put, List.setIfInBounds_toArray, List.set_cons_zero, List.set_cons_succ]
              refine takeH (i := 2) (v := ?v7) rfl (by kernel_rfl) (by kernel_rfl) (by kernel_rfl) (fun _ _ _ h => h) (by rfl) (by assumption) ?hy7 ?rest7
              case hy7 => (intro w hSw; (try dsimp only at hSw); first | (go_simp; done) | (go_simp; with_reducible rfl))
              try simp only [Act.put, List.setIfInBounds_toArray, List.set_cons_zero, List.set_cons_succ]
              refine takeH (i := 3) (v := ?v8) rfl (by kernel_rfl) (by kernel_rfl) (by kernel_rfl) (fun _ _ _ h => h) (by rfl) (by assumption) ?hy8 ?rest8
              case hy8 => (intro w hSw; (try dsimp only at hSw); first | (go_simp; done) | (go_simp; with_reducible rfl))
              try simp only [Act.put, List.setIfInBounds_toArray, List.set_cons_zero, List.set_cons_succ]
              refine takeH (i := 4) (v := ?v9) rfl (by kernel_rfl) (by kernel_rfl) (by kernel_rfl) (fun _ _ _ h => h) (by rfl) (by assumption) ?hy9 ?rest9
              case hy9 => (intro w hSw; (try dsimp only at hSw); first | (go_simp; done) | (go_simp; with_reducible rfl))
              try simp only [Act.put, List.setIfInBounds_toArray, List.set_cons_zero, List.set_cons_succ]
              refine takeH (i := 5) (v := ?v10) rfl (by kernel_rfl) (by kernel_rfl) (by kernel_rfl) (fun _ _ _ h => h) (by rfl) (by assumption) ?hy10 ?rest10
              case hy10 => (intro w hSw; (try dsimp only at hSw); first | (go_simp; done) | (go_simp; with_reducible rfl))
              try simp only [Act.put, List.setIfInBounds_toArray, List.set_cons_zero, List.set_cons_succ]
              refine takeH (i := 6) (v := ?v11) rfl (by kernel_rfl) (by kernel_rfl) (by kernel_rfl) (fun _ _ _ h => h) (by rfl) (by assumption) ?hy11 ?rest11
              case hy11 => (intro w hSw; (try dsimp only at hSw); first | (go_simp; done) | (go_simp; with_reducible rfl))
              try simp only [Act.put, List.setIfInBounds_toArray, List.set_cons_zero, List.set_cons_succ]
              refine takeH (i := 7) (v := ?v12) rfl (by kernel_rfl) (by kernel_rfl) (by kernel_rfl) (fun _ _ _ h => h) (by rfl) (by assumption) ?hy12 ?rest12
              case hy12 => (intro w hSw; (try dsimp only at hSw); first | (go_simp; done) | (go_simp; with_reducible rfl))
              try simp only [Act.put, List.setIfInBounds_toArray, List.set_cons_zero, List.set_cons_succ]
              refine takeH (i := 8) (v := ?v13) rfl (by kernel_rfl) (by kernel_rfl) (by kernel_rfl) (fun _ _ _ h => h) (by rfl) (by assumption) ?hy13 ?rest13
              case hy13 => (intro w hSw; (try dsimp only at hSw); first | (go_simp; done) | (go_simp; with_reducible rfl))
              try simp only [Act.put, List.setIfInBounds_toArray, List.set_cons_zero, List.set_cons_succ]
              refine takeH (i := 9) (v := ?v14) rfl (by kernel_rfl) (by kernel_rfl) (by kernel_rfl) (fun _ _ _ h => h) (by rfl) (by assumption) ?hy14 ?rest14
              case hy14 => (intro w hSw; (try dsimp only at hSw); first | (go_simp; done) | (go_simp; with_reducible rfl))
              try simp only [Act.put, List.setIfInBounds_toArray, List.set_cons_zero, List.set_cons_succ]
              refine wpAnyH_ready (rs := [10]) (by kernel_rfl) (by simp) (consH rfl (fun K hK => ?_) AllReadyH.nil)
              go_simp
              go_at_call 25
              refine (HSO2.out x0 hbs).mono ?_
              rintro e x1 ⟨rfl, m', rfl⟩
              have hbs := below_drewN hbs m'
              refine hK.out _ _ (HKR.out _ hbs) (fun hHeld => ?_)
              clear hK K
              try simp only [Act.put, List.setIfInBounds_toArray, List.set_cons_zero, List.set_cons_succ]
              refine takeH (i := 11) (v := ?v15) rfl (by kernel_rfl) (by kernel_rfl) (by kernel_rfl) (fun _ _ _ h => h) (by rfl) (by assumption) ?hy15 ?rest15
              case hy15 => (intro w hSw; (try dsimp only at hSw); first | (go_simp; done) | (go_simp; with_reducible rfl))
              try simp only [Act.put, List.setIfInBounds_toArray, List.set_cons_zero, List.set_cons_succ]
              refine wpAnyH_done (by kernel_rfl) ?_ _
              clear hHeld
              go_wp2_with fail
              go_roundw
              case rel => exact ⟨i + 1, by omega, by go_num, HBR.out.trans (hbs.mono HBR.out.size)⟩
              case measure => simp [intOf]; omega
            · have hie : i = nl := by omega
              clear hAr hcp
              go_upto_region 31 with fail
              have HE13 : Hid (∀ W, Below wr.heap.size wr W → Env N W ∧ Below rb w W) := Lib.hid (fun W hW => by
                have h := HU.out W (HB2r.out.trans (hW.mono HB2r.out.size))
                exact ⟨h.2.1, (HW.out _ h.2.2).2.2.2⟩)
              have HP := Lib.hid (fun W hW => parse_walk N ⟨t.toArray⟩ W hW (by rw [size_mk]; omega))
              simp only at HP
              have HGP := Lib.hid (parse_good' t)
              generalize parseF t = R at *
              obtain ⟨n2, n1, T⟩ := R
              simp only at HGP
              have HPT : Hid (∀ W, Env N W → Calls Tryd.prog 11 #[.string ⟨t.toArray⟩] W fun e w' => ∃ tv hv sv V, e = .returned (.tuple #[.agg #[tv, hv, sv, .int .i64 T.most], .int .i64 (n1 : Int), .int .i64 n2]) ∧ RowsS w' (W.heap.size + 1) 62 58 tv hv sv V T ∧ Lim T ∧ Below W.heap.size W w') := Lib.hid HP.out
              clear HP
              clear HB12w HLM12 HBR HB2r HNA
              generalize wr = w13 at *
              have hE13 := (HE13.out w13 (Below.refl _ _)).1
              go_wp2_with fail
              refine (HPT.out _ hE13).mono ?_
              rintro e w14 ⟨tv, hv, sv, PV, rfl, hrp, hlm, hb14⟩
              obtain ⟨a1, c1, rfl⟩ := own_slice hrp.tops
              obtain ⟨a2, c2, rfl⟩ := own_slice hrp.thrs
              obtain ⟨a3, c3, rfl⟩ := own_slice hrp.sch
              have HRP := Lib.hid (hrp.par (fun q hq => hq))
              have HLM := Lib.hid hlm
              have HB14 := Lib.hid hb14
              clear hrp hlm hb14 hE13
              go_upto_region 32 with fail
              generalize hplo : w13.heap.size = plo at *
              have HPX : Hid ((w14.alloc (.cells #[.slice a1 T.tops.length c1, .slice a2 T.thrs.length c2, .slice a3 T.sch.length c3, .int .i64 T.most] 27)).heap[w14.heap.size]? = some (.cells #[.slice a1 T.tops.length c1, .slice a2 T.thrs.length c2, .slice a3 T.sch.length c3, .int .i64 T.most] 27 (0, 0))) := Lib.hid (heap_alloc_new _ _)
              have h14s : plo ≤ w14.heap.size := by have := HB14.out.size; omega
              have hE15 : Below w14.heap.size w14 (w14.alloc (.cells #[.slice a1 T.tops.length c1, .slice a2 T.thrs.length c2, .slice a3 T.sch.length c3, .int .i64 T.most] 27)) := (Below.refl _ _).alloc (Nat.le_refl _) _
              have HB15 := Lib.hid (HB14.out.trans (hE15.mono h14s))
              have HRP15 := Lib.hid (HRP.out.below hE15)
              have h15s : (w14.alloc (.cells #[.slice a1 T.tops.length c1, .slice a2 T.thrs.length c2, .slice a3 T.sch.length c3, .int .i64 T.most] 27)).heap.size = w14.heap.size + 1 := by simp
              clear HRP hE15
              generalize w14.alloc (.cells #[.slice a1 T.tops.length c1, .slice a2 T.thrs.length c2, .slice a3 T.sch.length c3, .int .i64 T.most] 27) = w15 at *
              generalize w14.heap.size = phi at *
              clear HB14
              have hE15 := (HE13.out w15 HB15.out).1
              go_wp2_with fail
              refine (HPT.out _ hE15).mono ?_
              rintro e w16 ⟨tv, hv, sv, QV, rfl, hrp, hlm, hb16⟩
              obtain ⟨b1, d1, rfl⟩ := own_slice hrp.tops
              obtain ⟨b2, d2, rfl⟩ := own_slice hrp.thrs
              obtain ⟨b3, d3, rfl⟩ := own_slice hrp.sch
              have HCQ : Hid (Cpy (w16.alloc (.cells #[.slice b1 T.tops.length d1, .slice b2 T.thrs.length d2, .slice b3 T.sch.length d3, .int .i64 T.most] 27)) w15.heap.size w16.heap.size (.slice b1 T.tops.length d1) (.slice b2 T.thrs.length d2) (.slice b3 T.sch.length d3) QV T) := Lib.hid
                ⟨heap_alloc_new _ _, (hrp.alloc _).base (Nat.le_succ _), hb16.size⟩
              have hE17 : Below w15.heap.size w15 (w16.alloc (.cells #[.slice b1 T.tops.length d1, .slice b2 T.thrs.length d2, .slice b3 T.sch.length d3, .int .i64 T.most] 27)) := hb16.alloc hb16.size _
              have HB17 := Lib.hid hE17
              have h17s : w15.heap.size ≤ (w16.alloc (.cells #[.slice b1 T.tops.length d1, .slice b2 T.thrs.length d2, .slice b3 T.sch.length d3, .int .i64 T.most] 27)).heap.size := hE17.size
              clear hrp hlm hb16 hE17 hE15
              go_upto_region 33 with fail
              generalize w16.alloc (.cells #[.slice b1 T.tops.length d1, .slice b2 T.thrs.length d2, .slice b3 T.sch.length d3, .int .i64 T.most] 27) = w17 at *
              generalize w16.heap.size = qb at *
              obtain ⟨x0, x1, x2, x3⟩ : w17.cell? ⟨qb, 0, none⟩ = some (.slice b1 T.tops.length d1) ∧ w17.cell? ⟨qb, 1, none⟩ = some (.slice b2 T.thrs.length d2) ∧ w17.cell? ⟨qb, 2, none⟩ = some (.slice b3 T.sch.length d3) ∧ w17.cell? ⟨qb, 3, none⟩ = some (.int .i64 T.most) := ⟨(cell_of HCQ.out.head 0).trans rfl, (cell_of HCQ.out.head 1).trans rfl, (cell_of HCQ.out.head 2).trans rfl, (cell_of HCQ.out.head 3).trans rfl⟩
              have HCW : Hid (Calls Tryd.prog 16 #[.agg #[.slice b1 T.tops.length d1, .slice b2 T.thrs.length d2, .slice b3 T.sch.length d3, .int .i64 T.most]] w17 (CopyD T w17)) := Lib.hid (copied_walk _ _ _ QV T w17 HCQ.out.rows.read (good_small HGP.out) (fun n c e => own_nil HCQ.out.rows.tops e) (fun n c e => own_nil HCQ.out.rows.sch e) (fun i hi n c e => own_nil (HCQ.out.rows.each i hi) e))
              go_wp2_with fail
              refine HCW.out.mono ?_
              rintro e w18 ⟨tv, hv, sv, CV, rfl, hrc, hb18⟩
              obtain ⟨g1, h1, rfl⟩ := own_slice hrc.tops
              obtain ⟨g2, h2, rfl⟩ := own_slice hrc.thrs
              obtain ⟨g3, h3, rfl⟩ := own_slice hrc.sch
              clear x0 x1 x2 x3 HCW
              have hE19 : Below w17.heap.size w17 (w18.alloc (.cells #[.slice g1 T.tops.length h1, .slice g2 T.thrs.length h2, .slice g3 T.sch.length h3, .int .i64 T.most] 27)) := hb18.alloc hb18.size _
              have HCC : Hid (Cpy (w18.alloc (.cells #[.slice g1 T.tops.length h1, .slice g2 T.thrs.length h2, .slice g3 T.sch.length h3, .int .i64 T.most] 27)) w17.heap.size w18.heap.size (.slice g1 T.tops.length h1) (.slice g2 T.thrs.length h2) (.slice g3 T.sch.length h3) CV T) := Lib.hid ⟨heap_alloc_new _ _, hrc.alloc _, hb18.size⟩
              have HCQ19 := Lib.hid (HCQ.out.below hE19)
              have HB1519 := Lib.hid (HB17.out.trans (hE19.mono h17s))
              have h19s := hE19.size
              clear hrc hb18 hE19 HCQ HB17
              go_upto_region 34 with fail
              generalize w18.alloc (.cells #[.slice g1 T.tops.length h1, .slice g2 T.thrs.length h2, .slice g3 T.sch.length h3, .int .i64 T.most] 27) = w19 at *
              generalize w18.heap.size = cb at *
              have hplo1 : plo ≤ phi := h14s
              have HPR := Lib.hid (HRP15.out.below HB1519.out)
              have HPX19 : Hid (w19.heap[phi]? = some (.cells #[.slice a1 T.tops.length c1, .slice a2 T.thrs.length c2, .slice a3 T.sch.length c3, .int .i64 T.most] 27 (0, 0))) := Lib.hid ((HB1519.out.block phi (by omega)).trans HPX.out)
              have HBL : Hid (∀ W, Zone (plo + 1) phi w19 W → Env N W ∧ Below rb w W) := Lib.hid (fun W hz => by
                have h0 : Below plo w13 w19 := HB15.out.trans (HB1519.out.mono (by omega))
                exact HE13.out W (h0.trans ((hz.low (by omega)).mono (Nat.le_succ _))))
              have HPK : Hid (∀ W, Zone (plo + 1) phi w19 W → W.cell? ⟨phi, 0, none⟩ = some (.slice a1 T.tops.length c1) ∧ W.cell? ⟨phi, 1, none⟩ = some (.slice a2 T.thrs.length c2) ∧ W.cell? ⟨phi, 2, none⟩ = some (.slice a3 T.sch.length c3)) := Lib.hid (fun W hz => by
                have hx := (hz.block phi (by omega) (by omega)).trans HPX19.out
                exact ⟨(cell_of hx 0).trans rfl, (cell_of hx 1).trans rfl, (cell_of hx 2).trans rfl⟩)
              have HQC : Hid (∀ W, Zone (plo + 1) phi w19 W → Cpy W w15.heap.size qb (.slice b1 T.tops.length d1) (.slice b2 T.thrs.length d2) (.slice b3 T.sch.length d3) QV T ∧ Cpy W w17.heap.size cb (.slice g1 T.tops.length h1) (.slice g2 T.thrs.length h2) (.slice g3 T.sch.length h3) CV T) := Lib.hid (fun W hz =>
                ⟨HCQ19.out.zone (by omega) hz, HCC.out.zone (by omega) hz⟩)
              have HTL := Lib.hid HLM.out
              clear HCC HCQ19 HPX HPX19 HRP15 HB15 HB1519 HE13 HPT
              have htl1 : T.thrs.length ≤ 64 := HTL.out.thrs
              have htl2 : T.tops.length ≤ 65536 := HTL.out.tops
              have htl3 : T.sch.length ≤ 1048576 := HTL.out.sch
              generalize hlen2 : (fun i => (T.thrs.getD i default).ops.length) = len2 at *
              have HLB2 : Hid (∀ i, i < T.thrs.length → len2 i ≤ 65536) := Lib.hid (fun i hi => by rw [← hlen2]; exact HTL.out.ops i hi)
              clear hlen2
              generalize hnh : T.thrs.length = nh at *
              generalize hnt : T.tops.length = nt at *
              generalize hns : T.sch.length = ns at *
              have HNN : Hid (T.thrs.length = nh ∧ T.tops.length = nt ∧ T.sch.length = ns) := Lib.hid ⟨hnh, hnt, hns⟩
              clear hnh hnt hns HTL
              obtain ⟨x0, x1, x2⟩ := HPK.out _ (Zone.refl _ _ _)
              go_wp2_with fail
              clear x0 x1 x2
              go_loopw [133] (fun iv wr => ∃ i : Nat, i ≤ nh ∧ iv = .int .i64 i ∧ Par wr (plo + 1) phi (.slice a1 nt c1) (.slice a2 nh c2) (.slice a3 ns c3) PV nt nh ns len2 i ∧ Zone (plo + 1) phi w19 wr) (fun iv _ => nh - (intOf iv).toNat)
              case atStart => exact ⟨0, Nat.zero_le _, rfl, HPR.out, Zone.refl _ _ _⟩
              case round =>
                obtain ⟨i, hi1, rfl, hwr, hzr⟩ := hrel
                by_cases hin : i < nh
                · obtain ⟨g, cap, hve⟩ := hwr.thr.at_row (by omega)
                  injection hve with hve _ hve2
                  subst hve hve2
                  have HWI := Lib.hid hwr
                  have HZI := Lib.hid hzr
                  obtain ⟨pa, ca, hva⟩ := hwr.thr.at_len hin
                  obtain ⟨x0, x1, x2⟩ := HPK.out _ hzr
                  have cl1 := hwr.thr.cell hin (show 1 < 2 by decide)
                  rw [hva] at cl1
                  have hlb := HLB2.out i hin
                  have HVA := Lib.hid hva
                  clear hwr hzr hva
                  generalize hli : len2 i = li at *
                  have HLI := Lib.hid hli
                  clear hli
                  go_wp2_with fail
                  clear x0 x1 x2
                  go_loopw [143] (fun iv wq => ∃ j : Nat, j ≤ li ∧ iv = .int .i64 j ∧ Par wq (plo + 1) phi (.slice a1 nt c1) (.slice (some ⟨g, 0, none⟩) nh c2) (.slice a3 ns c3) PV nt nh ns len2 i ∧ Zone (plo + 1) phi w19 wq) (fun iv _ => li - (intOf iv).toNat)
                  case atStart => exact ⟨0, Nat.zero_le _, rfl, HWI.out, HZI.out⟩
                  case round =>
                    obtain ⟨j, hj1, rfl, hwq, hzq⟩ := hrel
                    have HWQ := Lib.hid hwq
                    have HZQ := Lib.hid hzq
                    obtain ⟨x0, x1, x2⟩ := HPK.out _ hzq
                    have cl2 := hwq.thr.cell hin (show 1 < 2 by decide)
                    rw [HVA.out] at cl2
                    by_cases hjn : j < li
                    · obtain ⟨ga, cga, hpa⟩ := hwq.thr.at_each hin (by rw [HLI.out]; omega)
                      rw [HVA.out, HLI.out] at hpa
                      injection hpa with hpa _ hpa2
                      subst hpa hpa2
                      have hva2 : PV i = .slice (some ⟨ga, 0, none⟩) (len2 i) ca := by rw [HVA.out, HLI.out]
                      obtain ⟨⟨n0, k0⟩, f0⟩ := hwq.thr.cellOp hin hva2 (j * 4) (by rw [HLI.out]; omega)
                      obtain ⟨⟨n1', k1⟩, f1⟩ := hwq.thr.cellOp hin hva2 (j * 4 + 1) (by rw [HLI.out]; omega)
                      obtain ⟨⟨n2', k2⟩, f2⟩ := hwq.thr.cellOp hin hva2 (j * 4 + 2) (by rw [HLI.out]; omega)
                      obtain ⟨⟨n3, k3⟩, f3⟩ := hwq.thr.cellOp hin hva2 (j * 4 + 3) (by rw [HLI.out]; omega)
                      have HP := Lib.hid (hwq.putOp hin hva2 (j * 4) (.int .i64 98))
                      have HP1 := Lib.hid (HP.out.1.putOp hin hva2 (j * 4 + 1) (.int .i64 0))
                      have HP2 := Lib.hid (HP1.out.1.putOp hin hva2 (j * 4 + 2) (.int .i64 0))
                      have HP3 := Lib.hid (HP2.out.1.putOp hin hva2 (j * 4 + 3) (.int .i64 0))
                      clear hwq hzq hva2
                      go_wp2_with fail
                      go_roundw
                      case rel => exact ⟨j + 1, by omega, by go_num, HP3.out.1, HZQ.out.trans (HP.out.2.trans (HP1.out.2.trans (HP2.out.2.trans HP3.out.2)))⟩
                      case measure => simp [intOf]; omega
                    · have hje : j = li := by omega
                      subst hje
                      obtain ⟨xs, hxs⟩ := hwq.thr.each i (Nat.le_refl _) hin
                      rw [HVA.out, HLI.out] at hxs
                      obtain ⟨v', w20, hap, hg6⟩ := run_append_zeros (P := Tryd.prog) wr (plo + 1) 56 3 56 65 under56 Tryd.underlying3 info65 (by omega) (by omega) rfl (ocell_one ⟨0, 0, 0, 0⟩) hxs (by omega) 9 (by omega) (by omega)
                      have hg6' : wr.grownBy w20 (PV i).ownBlock := by rw [HVA.out]; exact hg6
                      have HN6 := Lib.hid (hwq.next hin hg6')
                      have HZ6 := Lib.hid (hzq.trans (.of_grown hg6' (hwq.thr.block (Nat.le_refl _) hin)))
                      obtain ⟨⟨n0, k0⟩, f0⟩ := HN6.out.thr.slot (i * 2) (by omega)
                      obtain ⟨⟨n1', k1⟩, f1⟩ := HN6.out.thr.slot (i * 2 + 1) (by omega)
                      obtain ⟨z0, z1, z2⟩ := HPK.out _ HZ6.out
                      have HP := Lib.hid (HN6.out.store (d := i * 2) (by omega) (.string ⟨#[]⟩))
                      have HP1 := Lib.hid (HP.out.1.store (d := i * 2 + 1) (by omega) (.slice none 0 0))
                      clear hxs hg6 hg6' hwq hzq
                      go_wp2_with (at_builtin; refine Lib.wpList_append_run _ rfl _ _ _ _ rfl _ _ rfl rfl _ _ hap ?_)
                      go_roundw
                      case rel => exact ⟨i + 1, by omega, by go_num, HP1.out.1, HZ6.out.trans (HP.out.2.trans HP1.out.2)⟩
                      case measure => simp [intOf]; omega
                · have HZ3 := Lib.hid hzr
                  have HPR3 := Lib.hid hwr
                  clear hwr hzr
                  have HW3 : Hid (Wrt wr (plo + 1) phi 3 1 (.slice a3 ns c3) ns ∧ Wrt wr (plo + 1) phi 62 2 (.slice a1 nt c1) nt) := Lib.hid ⟨HPR3.out.sch, HPR3.out.top⟩
                  clear HPR3
                  obtain ⟨x0, x1, x2⟩ := HPK.out _ HZ3.out
                  go_wp2_with fail
                  clear x0 x1 x2
                  go_loopw [172] (fun iv wq => ∃ i : Nat, i ≤ ns ∧ iv = .int .i64 i ∧ (Wrt wq (plo + 1) phi 3 1 (.slice a3 ns c3) ns ∧ Wrt wq (plo + 1) phi 62 2 (.slice a1 nt c1) nt) ∧ Zone (plo + 1) phi w19 wq) (fun iv _ => ns - (intOf iv).toNat)
                  case atStart => exact ⟨0, Nat.zero_le _, rfl, HW3.out, HZ3.out⟩
                  case round =>
                    obtain ⟨k, hk1, rfl, hws, hzs⟩ := hrel
                    obtain ⟨x0, x1, x2⟩ := HPK.out _ hzs
                    by_cases hkn : k < ns
                    · obtain ⟨g, cap, hve⟩ := hws.1.at_row (by omega)
                      injection hve with hve _ hve2
                      subst hve hve2
                      obtain ⟨⟨n0, k0⟩, f0⟩ := hws.1.slot k (by omega)
                      have HP := Lib.hid (hws.1.put k (.int .i64 (-1)))
                      have HPO := Lib.hid (hws.2.other hws.1 (by decide) k (.int .i64 (-1)))
                      have HZQ := Lib.hid hzs
                      clear hws hzs
                      go_wp2_with fail
                      go_roundw
                      case rel => exact ⟨k + 1, by omega, by go_num, ⟨HP.out.1, HPO.out⟩, HZQ.out.trans HP.out.2⟩
                      case measure => simp [intOf]; omega
                    · have HZ4 := Lib.hid hzs
                      have HW4 := Lib.hid hws.2
                      clear hws hzs
                      go_wp2_with fail
                      clear x0 x1 x2
                      go_loopw [183] (fun iv wq => ∃ i : Nat, i ≤ nt ∧ iv = .int .i64 i ∧ Wrt wq (plo + 1) phi 62 2 (.slice a1 nt c1) nt ∧ Zone (plo + 1) phi w19 wq) (fun iv _ => nt - (intOf iv).toNat)
                      case atStart => exact ⟨0, Nat.zero_le _, rfl, HW4.out, HZ4.out⟩
                      case round =>
                        obtain ⟨l, hl1', rfl, hwt, hzt⟩ := hrel
                        obtain ⟨x0, x1, x2⟩ := HPK.out _ hzt
                        by_cases hln : l < nt
                        · obtain ⟨g, cap, hve⟩ := hwt.at_row (by omega)
                          injection hve with hve _ hve2
                          subst hve hve2
                          obtain ⟨⟨n0, k0⟩, f0⟩ := hwt.slot (l * 2) (by omega)
                          obtain ⟨⟨n1', k1⟩, f1⟩ := hwt.slot (l * 2 + 1) (by omega)
                          have HP := Lib.hid (hwt.put (l * 2) (.int .i64 0))
                          have HP1 := Lib.hid (HP.out.1.put (l * 2 + 1) (.int .i64 (-1)))
                          have HZQ := Lib.hid hzt
                          clear hwt hzt
                          go_wp2_with fail
                          go_roundw
                          case rel => exact ⟨l + 1, by omega, by go_num, HP1.out.1, HZQ.out.trans (HP.out.2.trans HP1.out.2)⟩
                          case measure => simp [intOf]; omega
                        · have HZ5 := Lib.hid hzt
                          have HQC5 := Lib.hid (HQC.out _ hzt)
                          obtain ⟨q0', q1', q2', q3'⟩ : wr.cell? ⟨qb, 0, none⟩ = some (.slice b1 nt d1) ∧ wr.cell? ⟨qb, 1, none⟩ = some (.slice b2 nh d2) ∧ wr.cell? ⟨qb, 2, none⟩ = some (.slice b3 ns d3) ∧ wr.cell? ⟨qb, 3, none⟩ = some (.int .i64 T.most) := ⟨(cell_of HQC5.out.1.head 0).trans rfl, (cell_of HQC5.out.1.head 1).trans rfl, (cell_of HQC5.out.1.head 2).trans rfl, (cell_of HQC5.out.1.head 3).trans rfl⟩
                          obtain ⟨r0', r1', r2', r3'⟩ : wr.cell? ⟨cb, 0, none⟩ = some (.slice g1 nt h1) ∧ wr.cell? ⟨cb, 1, none⟩ = some (.slice g2 nh h2) ∧ wr.cell? ⟨cb, 2, none⟩ = some (.slice g3 ns h3) ∧ wr.cell? ⟨cb, 3, none⟩ = some (.int .i64 T.most) := ⟨(cell_of HQC5.out.2.head 0).trans rfl, (cell_of HQC5.out.2.head 1).trans rfl, (cell_of HQC5.out.2.head 2).trans rfl, (cell_of HQC5.out.2.head 3).trans rfl⟩
                          have HSQ : Hid (Calls Tryd.prog 26 #[.agg #[.slice b1 nt d1, .slice b2 nh d2, .slice b3 ns d3, .int .i64 T.most], .agg #[.slice g1 nt h1, .slice g2 nh h2, .slice g3 ns h3, .int .i64 T.most]] wr fun e w' => e = .returned (.bool true) ∧ Below wr.heap.size wr w') := Lib.hid (by
                            have h := sameS_walk _ _ _ _ _ _ QV CV T T wr HQC5.out.1.rows.read HQC5.out.2.rows.read (good_small HGP.out) (good_small HGP.out)
                            rw [decide_eq_true rfl] at h
                            exact h)
                          clear hwt hzt
                          go_wp2_with fail
                          refine HSQ.out.mono ?_
                          rintro e w21 ⟨rfl, hb21⟩
                          go_wp2_with fail
                          go_ret
                          have h5 := (HBL.out _ HZ5.out).2
                          exact ⟨rfl, by rw [HRBE.out]; exact h5.trans (hb21.mono (by have := h5.size; have := HRBE.out; omega))⟩
end Go.Proofs.YtdmhlhoimaeacaaDoor
