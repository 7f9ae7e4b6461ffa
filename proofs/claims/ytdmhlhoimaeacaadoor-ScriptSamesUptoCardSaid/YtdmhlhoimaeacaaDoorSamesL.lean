/-
  The law ScriptSames (f6). (The region in hand-held order is printed by wip/gen/sames.py.)
-/
import Derived.Test.YtdmhlhoimaeacaaDoorSameF
namespace Go.Proofs.YtdmhlhoimaeacaaDoor
open Go.RowKit Go.Maps PL
set_option linter.unusedVariables false

def wMore : Word := [109, 111, 114, 101]

set_option maxRecDepth 100000 in
set_option maxHeartbeats 16000000 in
theorem sames_law (N : Nat) (ta ha sa tb hb sb : Value) (VA VB : Nat → Value) (A B : Scr) (an : Nat) (w : World) (hE : Env N w) (hA : ScrIn w ta ha sa VA A) (hB : ScrIn w tb hb sb VB B) (han : an < 256) :
    Calls Tryd.prog 6 #[.agg #[ta, ha, sa, .int .i64 A.most], .agg #[tb, hb, sb, .int .i64 B.most], .int .u8 an] w fun e w' => e = .returned (.bool true) ∧ Below w.heap.size w w' := by
  obtain ⟨hat, htn, hhn, hsn, hvn, hAz, hAn, hAt, hAt2⟩ := hA
  obtain ⟨hbt, _, _, _, _, hBz, hBn, _, _⟩ := hB
  obtain ⟨a1, k1, rfl, _, _⟩ := hat.tops
  obtain ⟨a2, k2, rfl, _, _⟩ := hat.thrs
  obtain ⟨a3, k3, rfl, _, _⟩ := hat.sch
  obtain ⟨b1, j1, rfl, _, _⟩ := hbt.tops
  obtain ⟨b2, j2, rfl, _, _⟩ := hbt.thrs
  obtain ⟨b3, j3, rfl, _, _⟩ := hbt.sch
  have HTN := Lib.hid htn
  have HSN := Lib.hid hsn
  have HVN := Lib.hid hvn
  have HAZ := Lib.hid hAz
  have HBZ := Lib.hid hBz
  have HAN := Lib.hid hAn
  have HAT := Lib.hid hAt2
  have hs1 : (w.alloc (.cells #[.slice a1 A.tops.length k1, .slice a2 A.thrs.length k2, .slice a3 A.sch.length k3, .int .i64 A.most] 27)).heap.size = w.heap.size + 1 := by simp
  obtain ⟨W0, hW0⟩ : ∃ W0, W0 = (w.alloc (.cells #[.slice a1 A.tops.length k1, .slice a2 A.thrs.length k2, .slice a3 A.sch.length k3, .int .i64 A.most] 27)).alloc (.cells #[.slice b1 B.tops.length j1, .slice b2 B.thrs.length j2, .slice b3 B.sch.length j3, .int .i64 B.most] 27) := ⟨_, rfl⟩
  have hb2 : Below w.heap.size w W0 := by rw [hW0]; exact ((Below.refl _ _).alloc (Nat.le_refl _) _).alloc (by omega) _
  have HX := Lib.hid (show W0.heap[w.heap.size]? = some (.cells #[.slice a1 A.tops.length k1, .slice a2 A.thrs.length k2, .slice a3 A.sch.length k3, .int .i64 A.most] 27 (0, 0)) by rw [hW0]; exact (Below.heap_alloc _ _ _ (by omega)).trans (heap_alloc_new w _))
  have HY := Lib.hid (show W0.heap[w.heap.size + 1]? = some (.cells #[.slice b1 B.tops.length j1, .slice b2 B.thrs.length j2, .slice b3 B.sch.length j3, .int .i64 B.most] 27 (0, 0)) by rw [hW0, ← hs1]; exact heap_alloc_new _ _)
  have HSZ : Hid (W0.heap.size = w.heap.size + 2) := Lib.hid (by rw [hW0]; simp)
  have HA := Lib.hid (hat.below hb2)
  have HB := Lib.hid (hbt.below hb2)
  have HE := Lib.hid (hE.up hb2)
  have HB2 := Lib.hid hb2
  have HW0 := Lib.hid hW0
  clear hat hbt hb2 hE htn hhn hsn hvn hAz hBz hAn hBn hs1 hAt2 hW0
  go_enter Tryd.func6, Tryd.ntmps6
  go_upto_region 1 with fail
  rw [← HW0.out]
  clear HW0
  generalize hrb : w.heap.size = rb at *
  have HRBE := Lib.hid hrb
  clear hrb
  have HW : Hid (∀ W, Below (rb + 2) W0 W → ScrAt W (.slice a1 A.tops.length k1) (.slice a2 A.thrs.length k2) (.slice a3 A.sch.length k3) VA A ∧ ScrAt W (.slice b1 B.tops.length j1) (.slice b2 B.thrs.length j2) (.slice b3 B.sch.length j3) VB B ∧ Env N W ∧ Below rb w W) := Lib.hid (fun W hW => by
    have h1 : Below W0.heap.size W0 W := by rw [HSZ.out]; exact hW
    exact ⟨HA.out.below h1, HB.out.below h1, HE.out.up h1, HB2.out.trans (hW.mono (by omega))⟩)
  have HWN : Hid (∀ W W', Below (rb + 2) W0 W → Below W.heap.size W W' → Below (rb + 2) W0 W') := Lib.hid (fun W W' h1 h2 => h1.trans (h2.mono (by have := h1.size; have := HSZ.out; omega)))
  have HKC : Hid (∀ W, Below (rb + 2) W0 W → (W.cell? ⟨rb, 0, none⟩ = some (.slice a1 A.tops.length k1) ∧ W.cell? ⟨rb, 1, none⟩ = some (.slice a2 A.thrs.length k2) ∧ W.cell? ⟨rb, 2, none⟩ = some (.slice a3 A.sch.length k3) ∧ W.cell? ⟨rb, 3, none⟩ = some (.int .i64 A.most)) ∧
      W.cell? ⟨rb + 1, 0, none⟩ = some (.slice b1 B.tops.length j1) ∧ W.cell? ⟨rb + 1, 1, none⟩ = some (.slice b2 B.thrs.length j2) ∧ W.cell? ⟨rb + 1, 2, none⟩ = some (.slice b3 B.sch.length j3) ∧ W.cell? ⟨rb + 1, 3, none⟩ = some (.int .i64 B.most)) := Lib.hid (fun W hW => by
    have hx := (hW.block rb (by omega)).trans HX.out
    have hy := (hW.block (rb + 1) (by omega)).trans HY.out
    exact ⟨⟨(cell_of hx 0).trans rfl, (cell_of hx 1).trans rfl, (cell_of hx 2).trans rfl, (cell_of hx 3).trans rfl⟩, (cell_of hy 0).trans rfl, (cell_of hy 1).trans rfl, (cell_of hy 2).trans rfl, (cell_of hy 3).trans rfl⟩)
  clear HA HB HE HB2 HX HY
  have HCP : Hid (∀ W, Below (rb + 2) W0 W → Calls Tryd.prog 16 #[.agg #[.slice a1 A.tops.length k1, .slice a2 A.thrs.length k2, .slice a3 A.sch.length k3, .int .i64 A.most]] W (CopyD A W)) := Lib.hid (fun W hW => copied_walk _ _ _ VA A W (HW.out W hW).1 HAZ.out HTN.out HSN.out HVN.out)
  have HOA : Hid (∀ W, Below (rb + 2) W0 W → Calls Tryd.prog 14 #[.agg #[.slice a1 A.tops.length k1, .slice a2 A.thrs.length k2, .slice a3 A.sch.length k3, .int .i64 A.most]] W (OwnD (.slice a3 A.sch.length k3) VA A W)) := Lib.hid (fun W hW => own_walk _ _ _ VA A W (HW.out W hW).1 HAZ.out)
  have HOB : Hid (∀ W, Below (rb + 2) W0 W → Calls Tryd.prog 14 #[.agg #[.slice b1 B.tops.length j1, .slice b2 B.thrs.length j2, .slice b3 B.sch.length j3, .int .i64 B.most]] W (OwnD (.slice b3 B.sch.length j3) VB B W)) := Lib.hid (fun W hW => own_walk _ _ _ VB B W (HW.out W hW).2.1 HBZ.out)
  obtain ⟨q, hq⟩ : ∃ q, q = decide (A = B) := ⟨_, rfl⟩
  have HQ := Lib.hid hq
  have HAB : Hid (∀ W, Below (rb + 2) W0 W → Calls Tryd.prog 26 #[.agg #[.slice a1 A.tops.length k1, .slice a2 A.thrs.length k2, .slice a3 A.sch.length k3, .int .i64 A.most], .agg #[.slice b1 B.tops.length j1, .slice b2 B.thrs.length j2, .slice b3 B.sch.length j3, .int .i64 B.most]] W fun e w' => e = .returned (.bool q) ∧ Below W.heap.size W w') := Lib.hid (fun W hW => by
    rw [hq]
    exact sameS_walk _ _ _ _ _ _ VA VB A B W (HW.out W hW).1 (HW.out W hW).2.1 HAZ.out HBZ.out)
  have HBA : Hid (∀ W, Below (rb + 2) W0 W → Calls Tryd.prog 26 #[.agg #[.slice b1 B.tops.length j1, .slice b2 B.thrs.length j2, .slice b3 B.sch.length j3, .int .i64 B.most], .agg #[.slice a1 A.tops.length k1, .slice a2 A.thrs.length k2, .slice a3 A.sch.length k3, .int .i64 A.most]] W fun e w' => e = .returned (.bool q) ∧ Below W.heap.size W w') := Lib.hid (fun W hW => by
    have hx := sameS_walk _ _ _ _ _ _ VB VA B A W (HW.out W hW).2.1 (HW.out W hW).1 HBZ.out HAZ.out
    rw [show decide (B = A) = q by rw [hq]; exact decide_eq_decide.2 ⟨fun e => e.symm, fun e => e.symm⟩] at hx
    exact hx)
  clear hq
  have hb0 : Below (rb + 2) W0 W0 := Below.refl _ _
  have HR := Lib.hid (reads_walkS N W0 (HW.out W0 hb0).2.2.1)
  go_wp2_with fail
  refine HR.out.mono ?_
  rintro e w1 ⟨rfl, hb1⟩
  have HB1 := Lib.hid (HWN.out _ _ hb0 hb1)
  clear hb1 hb0 HR
  go_upto_region 3 with fail
  refine wp_region_held_drew (S := fun w' => (w'.cell? ⟨rb, 0, none⟩ = some (.slice a1 A.tops.length k1) ∧ w'.cell? ⟨rb, 1, none⟩ = some (.slice a2 A.thrs.length k2) ∧ w'.cell? ⟨rb, 2, none⟩ = some (.slice a3 A.sch.length k3) ∧ w'.cell? ⟨rb, 3, none⟩ = some (.int .i64 A.most)) ∧ w'.cell? ⟨rb + 1, 0, none⟩ = some (.slice b1 B.tops.length j1) ∧ w'.cell? ⟨rb + 1, 1, none⟩ = some (.slice b2 B.thrs.length j2) ∧ w'.cell? ⟨rb + 1, 2, none⟩ = some (.slice b3 B.sch.length j3) ∧ w'.cell? ⟨rb + 1, 3, none⟩ = some (.int .i64 B.most)) (by kernel_rfl) (HKC.out _ HB1.out.drew) (fun hHeld => ?_)
  have hbw0 := HB1.out.drew
  generalize w1.drew = v0 at *
  refine takeH (i := 0) (v := ?v10) rfl (by kernel_rfl) (by kernel_rfl) (by kernel_rfl) (fun _ _ _ h => h) (by rfl) (by assumption) ?hy10 ?rest10
  case hy10 => (intro w hSw; (try dsimp only at hSw); first | (go_simp; done) | (go_simp; with_reducible rfl))
  try simp only [Act.put, List.setIfInBounds_toArray, List.set_cons_zero, List.set_cons_succ]
  refine takeH (i := 1) (v := ?v11) rfl (by kernel_rfl) (by kernel_rfl) (by kernel_rfl) (fun _ _ _ h => h) (by rfl) (by assumption) ?hy11 ?rest11
  case hy11 => (intro w hSw; (try dsimp only at hSw); first | (go_simp; done) | (go_simp; with_reducible rfl))
  try simp only [Act.put, List.setIfInBounds_toArray, List.set_cons_zero, List.set_cons_succ]
  refine takeH (i := 3) (v := ?v12) rfl (by kernel_rfl) (by kernel_rfl) (by kernel_rfl) (fun _ _ _ h => h) (by rfl) (by assumption) ?hy12 ?rest12
  case hy12 => (intro w hSw; (try dsimp only at hSw); first | (go_simp; done) | (go_simp; with_reducible rfl))
  try simp only [Act.put, List.setIfInBounds_toArray, List.set_cons_zero, List.set_cons_succ]
  refine takeH (i := 5) (v := ?v13) rfl (by kernel_rfl) (by kernel_rfl) (by kernel_rfl) (fun _ _ _ h => h) (by rfl) (by assumption) ?hy13 ?rest13
  case hy13 => (intro w hSw; (try dsimp only at hSw); first | (go_simp; done) | (go_simp; with_reducible rfl))
  try simp only [Act.put, List.setIfInBounds_toArray, List.set_cons_zero, List.set_cons_succ]
  refine wpAnyH_ready (rs := [2]) (by kernel_rfl) (by simp) (consH rfl (fun K hK => ?_) AllReadyH.nil)
  go_simp
  go_at_call 26
  refine (HAB.out v0 hbw0).mono ?_
  rintro e v1 ⟨rfl, hb'⟩
  have hbw1 := HWN.out _ _ hbw0 hb'
  refine hK.out _ _ (HKC.out _ hbw1) (fun hHeld => ?_)
  clear hK K hb' hbw0
  try simp only [Act.put, List.setIfInBounds_toArray, List.set_cons_zero, List.set_cons_succ]
  refine wpAnyH_ready (rs := [4]) (by kernel_rfl) (by simp) (consH rfl (fun K hK => ?_) AllReadyH.nil)
  go_simp
  go_at_call 14
  refine (HOA.out v1 hbw1).mono ?_
  rintro e v2 ⟨yta, yha, rfl, hsoa, hb'⟩
  have hbw2 := HWN.out _ _ hbw1 hb'
  obtain ⟨y1a, z1a, rfl, _, _⟩ := hsoa.tops
  obtain ⟨y2a, z2a, rfl, _, _⟩ := hsoa.thrs
  refine hK.out _ _ (HKC.out _ hbw2) (fun hHeld => ?_)
  clear hK K hb' hbw1
  try simp only [Act.put, List.setIfInBounds_toArray, List.set_cons_zero, List.set_cons_succ]
  refine wpAnyH_ready (rs := [6]) (by kernel_rfl) (by simp) (consH rfl (fun K hK => ?_) AllReadyH.nil)
  go_simp
  go_at_call 14
  refine (HOB.out v2 hbw2).mono ?_
  rintro e v3 ⟨yua, yia, rfl, hspa, hb'⟩
  have hbw3 := HWN.out _ _ hbw2 hb'
  obtain ⟨y3a, z3a, rfl, _, _⟩ := hspa.tops
  obtain ⟨y4a, z4a, rfl, _, _⟩ := hspa.thrs
  have HRS := Lib.hid (rsame_walk _ _ _ _ _ _ VA VB A B v3 (hsoa.below hb') hspa HAZ.out HBZ.out)
  rw [← HQ.out] at HRS
  clear hsoa hspa
  refine hK.out _ _ (HKC.out _ hbw3) (fun hHeld => ?_)
  clear hK K hb' hbw2
  try simp only [Act.put, List.setIfInBounds_toArray, List.set_cons_zero, List.set_cons_succ]
  refine wpAnyH_ready (rs := [7]) (by kernel_rfl) (by simp) (consH rfl (fun K hK => ?_) AllReadyH.nil)
  go_simp
  go_at_call 13
  refine (HRS.out).mono ?_
  rintro e v4 ⟨rfl, hb'⟩
  clear HRS
  have hbw4 := HWN.out _ _ hbw3 hb'
  refine hK.out _ _ (HKC.out _ hbw4) (fun hHeld => ?_)
  clear hK K hb' hbw3
  try simp only [Act.put, List.setIfInBounds_toArray, List.set_cons_zero, List.set_cons_succ]
  refine takeH (i := 8) (v := ?v14) rfl (by kernel_rfl) (by kernel_rfl) (by kernel_rfl) (fun _ _ _ h => h) (by rfl) (by assumption) ?hy14 ?rest14
  case hy14 => (intro w hSw; (try dsimp only at hSw); first | (go_simp; done) | (go_simp; with_reducible rfl))
  try simp only [Act.put, List.setIfInBounds_toArray, List.set_cons_zero, List.set_cons_succ]
  refine takeH (i := 9) (v := ?v15) rfl (by kernel_rfl) (by kernel_rfl) (by kernel_rfl) (fun _ _ _ h => h) (by rfl) (by assumption) ?hy15 ?rest15
  case hy15 => (intro w hSw; (try dsimp only at hSw); first | (go_simp; done) | (go_simp; with_reducible rfl))
  try simp only [Act.put, List.setIfInBounds_toArray, List.set_cons_zero, List.set_cons_succ]
  refine takeH (i := 10) (v := ?v16) rfl (by kernel_rfl) (by kernel_rfl) (by kernel_rfl) (fun _ _ _ h => h) (by rfl) (by assumption) ?hy16 ?rest16
  case hy16 => (intro w hSw; (try dsimp only at hSw); first | (go_simp; done) | (go_simp; with_reducible rfl))
  try simp only [Act.put, List.setIfInBounds_toArray, List.set_cons_zero, List.set_cons_succ]
  refine takeH (i := 11) (v := ?v17) rfl (by kernel_rfl) (by kernel_rfl) (by kernel_rfl) (fun _ _ _ h => h) (by rfl) (by assumption) ?hy17 ?rest17
  case hy17 => (intro w hSw; (try dsimp only at hSw); first | (go_simp; done) | (go_simp; with_reducible rfl))
  try simp only [Act.put, List.setIfInBounds_toArray, List.set_cons_zero, List.set_cons_succ]
  refine takeH (i := 13) (v := ?v18) rfl (by kernel_rfl) (by kernel_rfl) (by kernel_rfl) (fun _ _ _ h => h) (by rfl) (by assumption) ?hy18 ?rest18
  case hy18 => (intro w hSw; (try dsimp only at hSw); first | (go_simp; done) | (go_simp; with_reducible rfl))
  try simp only [Act.put, List.setIfInBounds_toArray, List.set_cons_zero, List.set_cons_succ]
  refine takeH (i := 15) (v := ?v19) rfl (by kernel_rfl) (by kernel_rfl) (by kernel_rfl) (fun _ _ _ h => h) (by rfl) (by assumption) ?hy19 ?rest19
  case hy19 => (intro w hSw; (try dsimp only at hSw); first | (go_simp; done) | (go_simp; with_reducible rfl))
  try simp only [Act.put, List.setIfInBounds_toArray, List.set_cons_zero, List.set_cons_succ]
  refine wpAnyH_ready (rs := [12]) (by kernel_rfl) (by simp) (consH rfl (fun K hK => ?_) AllReadyH.nil)
  go_simp
  go_at_call 26
  refine (HBA.out v4 hbw4).mono ?_
  rintro e v5 ⟨rfl, hb'⟩
  have hbw5 := HWN.out _ _ hbw4 hb'
  refine hK.out _ _ (HKC.out _ hbw5) (fun hHeld => ?_)
  clear hK K hb' hbw4
  try simp only [Act.put, List.setIfInBounds_toArray, List.set_cons_zero, List.set_cons_succ]
  refine wpAnyH_ready (rs := [14]) (by kernel_rfl) (by simp) (consH rfl (fun K hK => ?_) AllReadyH.nil)
  go_simp
  go_at_call 14
  refine (HOA.out v5 hbw5).mono ?_
  rintro e v6 ⟨ytb, yhb, rfl, hsob, hb'⟩
  have hbw6 := HWN.out _ _ hbw5 hb'
  obtain ⟨y1b, z1b, rfl, _, _⟩ := hsob.tops
  obtain ⟨y2b, z2b, rfl, _, _⟩ := hsob.thrs
  refine hK.out _ _ (HKC.out _ hbw6) (fun hHeld => ?_)
  clear hK K hb' hbw5
  try simp only [Act.put, List.setIfInBounds_toArray, List.set_cons_zero, List.set_cons_succ]
  refine wpAnyH_ready (rs := [16]) (by kernel_rfl) (by simp) (consH rfl (fun K hK => ?_) AllReadyH.nil)
  go_simp
  go_at_call 14
  refine (HOB.out v6 hbw6).mono ?_
  rintro e v7 ⟨yub, yib, rfl, hspb, hb'⟩
  have hbw7 := HWN.out _ _ hbw6 hb'
  obtain ⟨y3b, z3b, rfl, _, _⟩ := hspb.tops
  obtain ⟨y4b, z4b, rfl, _, _⟩ := hspb.thrs
  have HRS := Lib.hid (rsame_walk _ _ _ _ _ _ VA VB A B v7 (hsob.below hb') hspb HAZ.out HBZ.out)
  rw [← HQ.out] at HRS
  clear hsob hspb
  refine hK.out _ _ (HKC.out _ hbw7) (fun hHeld => ?_)
  clear hK K hb' hbw6
  try simp only [Act.put, List.setIfInBounds_toArray, List.set_cons_zero, List.set_cons_succ]
  refine wpAnyH_ready (rs := [17]) (by kernel_rfl) (by simp) (consH rfl (fun K hK => ?_) AllReadyH.nil)
  go_simp
  go_at_call 13
  refine (HRS.out).mono ?_
  rintro e v8 ⟨rfl, hb'⟩
  clear HRS
  have hbw8 := HWN.out _ _ hbw7 hb'
  refine hK.out _ _ (HKC.out _ hbw8) (fun hHeld => ?_)
  clear hK K hb' hbw7
  try simp only [Act.put, List.setIfInBounds_toArray, List.set_cons_zero, List.set_cons_succ]
  refine takeH (i := 18) (v := ?v20) rfl (by kernel_rfl) (by kernel_rfl) (by kernel_rfl) (fun _ _ _ h => h) (by rfl) (by assumption) ?hy20 ?rest20
  case hy20 => (intro w hSw; (try dsimp only at hSw); first | (go_simp; done) | (go_simp; with_reducible rfl))
  try simp only [Act.put, List.setIfInBounds_toArray, List.set_cons_zero, List.set_cons_succ]
  refine takeH (i := 19) (v := ?v21) rfl (by kernel_rfl) (by kernel_rfl) (by kernel_rfl) (fun _ _ _ h => h) (by rfl) (by assumption) ?hy21 ?rest21
  case hy21 => (intro w hSw; (try dsimp only at hSw); first | (go_simp; done) | (go_simp; with_reducible rfl))
  try simp only [Act.put, List.setIfInBounds_toArray, List.set_cons_zero, List.set_cons_succ]
  refine takeH (i := 20) (v := ?v22) rfl (by kernel_rfl) (by kernel_rfl) (by kernel_rfl) (fun _ _ _ h => h) (by rfl) (by assumption) ?hy22 ?rest22
  case hy22 => (intro w hSw; (try dsimp only at hSw); first | (go_simp; done) | (go_simp; with_reducible rfl))
  try simp only [Act.put, List.setIfInBounds_toArray, List.set_cons_zero, List.set_cons_succ]
  refine takeH (i := 21) (v := ?v23) rfl (by kernel_rfl) (by kernel_rfl) (by kernel_rfl) (fun _ _ _ h => h) (by rfl) (by assumption) ?hy23 ?rest23
  case hy23 => (intro w hSw; (try dsimp only at hSw); first | (go_simp; done) | (go_simp; with_reducible rfl))
  try simp only [Act.put, List.setIfInBounds_toArray, List.set_cons_zero, List.set_cons_succ]
  refine takeH (i := 22) (v := ?v24) rfl (by kernel_rfl) (by kernel_rfl) (by kernel_rfl) (fun _ _ _ h => h) (by rfl) (by assumption) ?hy24 ?rest24
  case hy24 => (intro w hSw; (try dsimp only at hSw); first | (go_simp; done) | (go_simp; with_reducible rfl))
  try simp only [Act.put, List.setIfInBounds_toArray, List.set_cons_zero, List.set_cons_succ]
  refine wpAnyH_ready (rs := [23]) (by kernel_rfl) (by simp) (consH rfl (fun K hK => ?_) AllReadyH.nil)
  go_simp
  go_at_call 16
  refine (HCP.out v8 hbw8).mono ?_
  rintro e v9 ⟨xt, xh, xs, XU, rfl, hrw, hb'⟩
  have hbw9 := HWN.out _ _ hbw8 hb'
  obtain ⟨u1, f1, rfl⟩ := own_slice hrw.tops
  obtain ⟨u2, f2, rfl⟩ := own_slice hrw.thrs
  obtain ⟨u3, f3, rfl⟩ := own_slice hrw.sch
  have HSM := Lib.hid (sameS_walk _ _ _ _ _ _ VA XU A A v9 (HW.out _ hbw9).1 hrw.read HAZ.out HAZ.out)
  rw [decide_eq_true (show A = A from rfl)] at HSM
  clear hrw
  refine hK.out _ _ (HKC.out _ hbw9) (fun hHeld => ?_)
  clear hK K hb' hbw8
  try simp only [Act.put, List.setIfInBounds_toArray, List.set_cons_zero, List.set_cons_succ]
  refine wpAnyH_ready (rs := [24]) (by kernel_rfl) (by simp) (consH rfl (fun K hK => ?_) AllReadyH.nil)
  go_simp
  go_at_call 26
  refine (HSM.out).mono ?_
  rintro e v10 ⟨rfl, hb'⟩
  clear HSM
  have hbw10 := HWN.out _ _ hbw9 hb'
  refine hK.out _ _ (HKC.out _ hbw10) (fun hHeld => ?_)
  clear hK K hb' hbw9
  try simp only [Act.put, List.setIfInBounds_toArray, List.set_cons_zero, List.set_cons_succ]
  refine takeH (i := 25) (v := ?v25) rfl (by kernel_rfl) (by kernel_rfl) (by kernel_rfl) (fun _ _ _ h => h) (by rfl) (by assumption) ?hy25 ?rest25
  case hy25 => (intro w hSw; (try dsimp only at hSw); first | (go_simp; done) | (go_simp; with_reducible rfl))
  try simp only [Act.put, List.setIfInBounds_toArray, List.set_cons_zero, List.set_cons_succ]
  refine takeH (i := 26) (v := ?v26) rfl (by kernel_rfl) (by kernel_rfl) (by kernel_rfl) (fun _ _ _ h => h) (by rfl) (by assumption) ?hy26 ?rest26
  case hy26 => (intro w hSw; (try dsimp only at hSw); first | (go_simp; done) | (go_simp; with_reducible rfl))
  try simp only [Act.put, List.setIfInBounds_toArray, List.set_cons_zero, List.set_cons_succ]
  refine wpAnyH_done (by kernel_rfl) ?_ _
  clear hHeld
  obtain ⟨vz, hvz⟩ : ∃ vz, vz = v10 := ⟨_, rfl⟩
  rw [← hvz]
  have hbwz := hbw10
  rw [← hvz] at hbwz
  clear hvz hbw10
  have HB2 := Lib.hid hbwz
  clear hbwz
  generalize vz = w2 at *
  obtain ⟨⟨c0, c1, c2, c3⟩, c4, c5, c6, c7⟩ := HKC.out _ HB2.out
  go_wp2_with fail
  refine (HCP.out _ HB2.out).mono ?_
  rintro e w3 ⟨xt, xh, xs, XV, rfl, hrw, hb3⟩
  have HRW := Lib.hid (hrw.base (show rb + 2 ≤ w2.heap.size by have := HB2.out.size; have := HSZ.out; omega))
  have HB3 := Lib.hid (HWN.out _ _ HB2.out hb3)
  obtain ⟨p1, e1, rfl⟩ := own_slice hrw.tops
  obtain ⟨p2, e2, rfl⟩ := own_slice hrw.thrs
  obtain ⟨p3, e3, rfl⟩ := own_slice hrw.sch
  clear hrw hb3 c0 c1 c2 c3 c4 c5 c6 c7
  have hgx : rb + 2 ≤ w3.heap.size := by have := HB3.out.size; have := HSZ.out; omega
  have HC : Hid (Cpy (w3.alloc (.cells #[.slice p1 A.tops.length e1, .slice p2 A.thrs.length e2, .slice p3 A.sch.length e3, .int .i64 A.most] 27)) (rb + 2) w3.heap.size (.slice p1 A.tops.length e1) (.slice p2 A.thrs.length e2) (.slice p3 A.sch.length e3) XV A) := Lib.hid ⟨heap_alloc_new _ _, HRW.out.alloc _, hgx⟩
  have HB4 := Lib.hid (HWN.out _ _ HB3.out ((Below.refl _ w3).alloc (Nat.le_refl _) (.cells #[.slice p1 A.tops.length e1, .slice p2 A.thrs.length e2, .slice p3 A.sch.length e3, .int .i64 A.most] 27)))
  clear HRW HOA HOB HAB HBA HCP
  go_upto_region 6 with fail
  generalize w3.alloc (.cells #[.slice p1 A.tops.length e1, .slice p2 A.thrs.length e2, .slice p3 A.sch.length e3, .int .i64 A.most] 27) = w4 at *
  generalize w3.heap.size = xb at *
  clear HB3
  go_upto_block 0 with fail
  have hr5 : (an : Int) % 5 = 0 ∨ (an : Int) % 5 = 1 ∨ (an : Int) % 5 = 2 ∨ (an : Int) % 5 = 3 ∨ (an : Int) % 5 = 4 := by omega
  generalize (an : Int) % 5 = r at *
  have x0 : w4.cell? ⟨xb, 0, none⟩ = some (.slice p1 A.tops.length e1) := (cell_of HC.out.head 0).trans rfl
  have x1 : w4.cell? ⟨xb, 1, none⟩ = some (.slice p2 A.thrs.length e2) := (cell_of HC.out.head 1).trans rfl
  have x2 : w4.cell? ⟨xb, 2, none⟩ = some (.slice p3 A.sch.length e3) := (cell_of HC.out.head 2).trans rfl
  have x3 : w4.cell? ⟨xb, 3, none⟩ = some (.int .i64 A.most) := (cell_of HC.out.head 3).trans rfl
  have xf := free_of HC.out.head
  obtain ⟨i62, hi62, z0, z1, z2⟩ := info_parts info62
  obtain ⟨i58, hi58, y0, y1, y2⟩ := info_parts info58
  obtain ⟨i3, hi3, u0, u1', u2'⟩ := info_parts info3
  have hsz4 : rb + 2 ≤ w4.heap.size := by have := HB4.out.size; have := HSZ.out; omega
  have HML := Lib.hid (fun n => HC.out.most n)
  rcases hr5 with rfl | rfl | rfl | rfl | rfl
  · obtain ⟨m, hm⟩ : ∃ m, m = IntKind.i64.wrap (A.most + 1) := ⟨_, rfl⟩
    have hm2 : IntKind.i64.wrap (A.most + 1) = m := hm.symm
    have hm3 : wrap64 (A.most + 1) = m := by rw [← hm2, IntKind.wrap_i64]; unfold wrap64; rfl
    have HNE : Hid (({ A with most := m } : Scr) ≠ A) := Lib.hid (by
      intro e
      have h1 := congrArg Scr.most e
      simp only at h1
      have h2 := HAN.out.most
      unfold In64 at h2
      rw [hm, IntKind.wrap_i64] at h1
      omega)
    have HZC : Hid (SmallS { A with most := m }) := Lib.hid ⟨HAZ.out.tops, HAZ.out.thrs, HAZ.out.sch, HAZ.out.ops, HAZ.out.names⟩
    have HCF := Lib.hid (HML.out m).1
    have HBF : Hid (Below (rb + 2) W0 (w4.setCell ⟨xb, 3, none⟩ (.int .i64 m))) := Lib.hid (HB4.out.trans (HML.out m).2)
    clear hm
    go_upto_region 20 with fail
    clear x0 x1 x2 x3 xf
    obtain ⟨⟨c0, c1, c2, c3⟩, c4, c5, c6, c7⟩ := HKC.out _ HBF.out
    have x0 := (cell_of HCF.out.head 0).trans rfl
    have x1 := (cell_of HCF.out.head 1).trans rfl
    have x2 := (cell_of HCF.out.head 2).trans rfl
    have x3 := (cell_of HCF.out.head 3).trans rfl
    go_wp2_with fail
    have HS1 := Lib.hid (sameS_walk _ _ _ _ _ _ VA _ A ({ A with most := m } : Scr) _ (HW.out _ HBF.out).1 HCF.out.rows.read HAZ.out HZC.out)
    rw [decide_eq_false HNE.out.symm] at HS1
    simp only at HS1
    refine HS1.out.mono ?_
    rintro e w8 ⟨rfl, hb8⟩
    have HB8 := Lib.hid (HWN.out _ _ HBF.out hb8)
    have HC8 := Lib.hid (HCF.out.below hb8)
    clear c0 c1 c2 c3 c4 c5 c6 c7 x0 x1 x2 x3 hb8 HS1
    obtain ⟨⟨c0, c1, c2, c3⟩, c4, c5, c6, c7⟩ := HKC.out _ HB8.out
    have x0 := (cell_of HC8.out.head 0).trans rfl
    have x1 := (cell_of HC8.out.head 1).trans rfl
    have x2 := (cell_of HC8.out.head 2).trans rfl
    have x3 := (cell_of HC8.out.head 3).trans rfl
    have HS2 := Lib.hid (sameS_walk _ _ _ _ _ _ _ VA ({ A with most := m } : Scr) A _ HC8.out.rows.read (HW.out _ HB8.out).1 HZC.out HAZ.out)
    rw [decide_eq_false HNE.out] at HS2
    simp only at HS2
    go_wp2_with fail
    refine HS2.out.mono ?_
    rintro e w9 ⟨rfl, hb9⟩
    have HB9 := Lib.hid (HWN.out _ _ HB8.out hb9)
    clear c0 c1 c2 c3 c4 c5 c6 c7 x0 x1 x2 x3 hb9 HS2
    go_wp2_with fail
    go_ret
    exact ⟨rfl, by rw [HRBE.out]; exact (HW.out _ HB9.out).2.2.2⟩
  · have HSX := Lib.hid (src_one0 w4 #[.int .i64 1] 3 1 rfl (by intro u hu; simp at hu; subst hu; rfl))
    have HRA := Lib.hid (HC.out.rows.sch.alloc (.cells #[.int .i64 1] 3))
    have HMORE := Lib.hid (fun v' w6 ha => HC.out.number (n := 1) (v' := v') (w1 := w6) (o := .cells #[.int .i64 1] 3) ha)
    have HNE : Hid (({ A with sch := A.sch ++ [1] } : Scr) ≠ A) := Lib.hid (by
      intro e
      have h1 := congrArg (fun S : Scr => S.sch.length) e
      simp at h1)
    have HZC : Hid (SmallS { A with sch := A.sch ++ [1] }) := Lib.hid ⟨HAZ.out.tops, HAZ.out.thrs, by have := HAT.out.2.1; simp; omega, HAZ.out.ops, HAZ.out.names⟩
    have hsl : A.sch.length ≤ 1048576 := HAT.out.2.1
    go_upto_region 10 with fail
    go_wp2_with (at_builtin; go_must (refine wpList_append_row rfl (.tmp 51) (.tmp 52) 25 rfl (rb + 2) 3 i3 _ 1 8 under25 hi3 u0 u1' (by decide) u2' rfl (.slice p3 A.sch.length e3) A.sch.length (ncells A.sch) rfl HRA.out 1 [.int .i64 1] HSX.out ?l2 ?b2 ?n2 ?_); go_must (case l2 => (unfold maxLen; omega)); go_must (case b2 => omega); go_must (case n2 => (simp; omega)); intro v' w6 ha; go_must (obtain ⟨vp, vc, rfl⟩ := own_slice ha.1); go_must (obtain ⟨g1, g2, g3, g4⟩ := HMORE.out _ w6 ha); have HCF := Lib.hid g3; have HBF := Lib.hid (HB4.out.trans g4); clear g3 g4 ha; clear x0 x1 x2 x3 xf; go_must (obtain ⟨⟨c0, c1, c2, c3⟩, c4, c5, c6, c7⟩ := HKC.out _ HBF.out); have x0 := (cell_of HCF.out.head 0).trans rfl; have x1 := (cell_of HCF.out.head 1).trans rfl; have x2 := (cell_of HCF.out.head 2).trans rfl; have x3 := (cell_of HCF.out.head 3).trans rfl)
    have HS1 := Lib.hid (sameS_walk _ _ _ _ _ _ VA _ A ({ A with sch := A.sch ++ [1] } : Scr) _ (HW.out _ HBF.out).1 HCF.out.rows.read HAZ.out HZC.out)
    rw [decide_eq_false HNE.out.symm] at HS1
    simp only at HS1
    refine HS1.out.mono ?_
    rintro e w8 ⟨rfl, hb8⟩
    have HB8 := Lib.hid (HWN.out _ _ HBF.out hb8)
    have HC8 := Lib.hid (HCF.out.below hb8)
    clear c0 c1 c2 c3 c4 c5 c6 c7 x0 x1 x2 x3 hb8 HS1
    obtain ⟨⟨c0, c1, c2, c3⟩, c4, c5, c6, c7⟩ := HKC.out _ HB8.out
    have x0 := (cell_of HC8.out.head 0).trans rfl
    have x1 := (cell_of HC8.out.head 1).trans rfl
    have x2 := (cell_of HC8.out.head 2).trans rfl
    have x3 := (cell_of HC8.out.head 3).trans rfl
    have HS2 := Lib.hid (sameS_walk _ _ _ _ _ _ _ VA ({ A with sch := A.sch ++ [1] } : Scr) A _ HC8.out.rows.read (HW.out _ HB8.out).1 HZC.out HAZ.out)
    rw [decide_eq_false HNE.out] at HS2
    simp only at HS2
    go_wp2_with fail
    refine HS2.out.mono ?_
    rintro e w9 ⟨rfl, hb9⟩
    have HB9 := Lib.hid (HWN.out _ _ HB8.out hb9)
    clear c0 c1 c2 c3 c4 c5 c6 c7 x0 x1 x2 x3 hb9 HS2
    go_wp2_with fail
    go_ret
    exact ⟨rfl, by rw [HRBE.out]; exact (HW.out _ HB9.out).2.2.2⟩
  · have HSX := Lib.hid (src_one0 w4 #[.int .i64 0, .int .i64 0] 62 2 rfl (tcell_one ⟨0, 0⟩))
    have HRA := Lib.hid (HC.out.rows.tops.alloc (.cells #[.int .i64 0, .int .i64 0] 62))
    have HMORE := Lib.hid (fun v' w6 ha => HC.out.topic (t := ⟨0, 0⟩) (v' := v') (w1 := w6) (o := .cells #[.int .i64 0, .int .i64 0] 62) ha)
    have HNE : Hid (({ A with tops := A.tops ++ [⟨0, 0⟩] } : Scr) ≠ A) := Lib.hid (by
      intro e
      have h1 := congrArg (fun S : Scr => S.tops.length) e
      simp at h1)
    have HZC : Hid (SmallS { A with tops := A.tops ++ [⟨0, 0⟩] }) := Lib.hid ⟨by simp; omega, HAZ.out.thrs, HAZ.out.sch, HAZ.out.ops, HAZ.out.names⟩
    go_upto_region 12 with fail
    go_wp2_with (at_builtin; go_must (refine wpList_append_row rfl (.tmp 58) (.tmp 60) 23 rfl (rb + 2) 62 i62 _ 2 16 Tryd.underlying23 hi62 z0 z1 (by decide) z2 rfl (.slice p1 A.tops.length e1) A.tops.length (tcells A.tops) rfl HRA.out 1 (tcell ⟨0, 0⟩) HSX.out ?l2 ?b2 ?n2 ?_); go_must (case l2 => (unfold maxLen; omega)); go_must (case b2 => omega); go_must (case n2 => (simp; omega)); intro v' w6 ha; go_must (obtain ⟨vp, vc, rfl⟩ := own_slice ha.1); go_must (obtain ⟨g1, g2, g3, g4⟩ := HMORE.out _ w6 ha); have HCF := Lib.hid g3; have HBF := Lib.hid (HB4.out.trans g4); clear g3 g4 ha; clear x0 x1 x2 x3 xf; go_must (obtain ⟨⟨c0, c1, c2, c3⟩, c4, c5, c6, c7⟩ := HKC.out _ HBF.out); have x0 := (cell_of HCF.out.head 0).trans rfl; have x1 := (cell_of HCF.out.head 1).trans rfl; have x2 := (cell_of HCF.out.head 2).trans rfl; have x3 := (cell_of HCF.out.head 3).trans rfl)
    have HS1 := Lib.hid (sameS_walk _ _ _ _ _ _ VA _ A ({ A with tops := A.tops ++ [⟨0, 0⟩] } : Scr) _ (HW.out _ HBF.out).1 HCF.out.rows.read HAZ.out HZC.out)
    rw [decide_eq_false HNE.out.symm] at HS1
    simp only at HS1
    refine HS1.out.mono ?_
    rintro e w8 ⟨rfl, hb8⟩
    have HB8 := Lib.hid (HWN.out _ _ HBF.out hb8)
    have HC8 := Lib.hid (HCF.out.below hb8)
    clear c0 c1 c2 c3 c4 c5 c6 c7 x0 x1 x2 x3 hb8 HS1
    obtain ⟨⟨c0, c1, c2, c3⟩, c4, c5, c6, c7⟩ := HKC.out _ HB8.out
    have x0 := (cell_of HC8.out.head 0).trans rfl
    have x1 := (cell_of HC8.out.head 1).trans rfl
    have x2 := (cell_of HC8.out.head 2).trans rfl
    have x3 := (cell_of HC8.out.head 3).trans rfl
    have HS2 := Lib.hid (sameS_walk _ _ _ _ _ _ _ VA ({ A with tops := A.tops ++ [⟨0, 0⟩] } : Scr) A _ HC8.out.rows.read (HW.out _ HB8.out).1 HZC.out HAZ.out)
    rw [decide_eq_false HNE.out] at HS2
    simp only at HS2
    go_wp2_with fail
    refine HS2.out.mono ?_
    rintro e w9 ⟨rfl, hb9⟩
    have HB9 := Lib.hid (HWN.out _ _ HB8.out hb9)
    clear c0 c1 c2 c3 c4 c5 c6 c7 x0 x1 x2 x3 hb9 HS2
    go_wp2_with fail
    go_ret
    exact ⟨rfl, by rw [HRBE.out]; exact (HW.out _ HB9.out).2.2.2⟩
  · have HSX := Lib.hid (src_one0 w4 #[.string ⟨(wMore).toArray⟩, .slice none 0 0] 58 2 rfl (hcell_one ⟨wMore, []⟩ (.slice none 0 0) rfl))
    have HRA := Lib.hid (HC.out.rows.thrs.alloc (.cells #[.string ⟨(wMore).toArray⟩, .slice none 0 0] 58))
    have HMORE := Lib.hid (fun v' w6 ha => HC.out.thread (n := wMore) (v' := v') (w1 := w6) (o := .cells #[.string ⟨(wMore).toArray⟩, .slice none 0 0] 58) ha)
    have HNE : Hid (({ A with thrs := A.thrs ++ [⟨wMore, []⟩] } : Scr) ≠ A) := Lib.hid (by
      intro e
      have h1 := congrArg (fun S : Scr => S.thrs.length) e
      simp at h1)
    have HZC : Hid (SmallS { A with thrs := A.thrs ++ [⟨wMore, []⟩] }) := Lib.hid ⟨HAZ.out.tops, by have := HAT.out.1; simp; omega, HAZ.out.sch, (by
      intro t ht
      simp only [List.mem_append, List.mem_singleton] at ht
      rcases ht with ht | rfl
      · exact HAZ.out.ops t ht
      · exact Nat.zero_le _), (by
      intro t ht
      simp only [List.mem_append, List.mem_singleton] at ht
      rcases ht with ht | rfl
      · exact HAZ.out.names t ht
      · exact (by decide : 4 ≤ 4000000))⟩
    have htl : A.thrs.length ≤ 1048576 := HAT.out.1
    have hwm : (wMore : Word).toArray = #[109, 111, 114, 101] := rfl
    rw [hwm] at HSX HRA HMORE
    go_upto_region 14 with fail
    go_wp2_with (at_builtin; go_must (refine wpList_append_row rfl (.tmp 66) (.tmp 68) 24 rfl (rb + 2) 58 i58 _ 2 40 Tryd.underlying24 hi58 y0 y1 (by decide) y2 rfl (.slice p2 A.thrs.length e2) A.thrs.length (hcells A.thrs XV) rfl HRA.out 1 (hcell ⟨wMore, []⟩ (.slice none 0 0)) HSX.out ?l2 ?b2 ?n2 ?_); go_must (case l2 => (unfold maxLen; omega)); go_must (case b2 => omega); go_must (case n2 => (simp; omega)); intro v' w6 ha; go_must (obtain ⟨vp, vc, rfl⟩ := own_slice ha.1); go_must (obtain ⟨g1, g2, g3, g4⟩ := HMORE.out _ w6 ha); have HCF := Lib.hid g3; have HBF := Lib.hid (HB4.out.trans g4); clear g3 g4 ha; clear x0 x1 x2 x3 xf; go_must (obtain ⟨⟨c0, c1, c2, c3⟩, c4, c5, c6, c7⟩ := HKC.out _ HBF.out); have x0 := (cell_of HCF.out.head 0).trans rfl; have x1 := (cell_of HCF.out.head 1).trans rfl; have x2 := (cell_of HCF.out.head 2).trans rfl; have x3 := (cell_of HCF.out.head 3).trans rfl)
    have HS1 := Lib.hid (sameS_walk _ _ _ _ _ _ VA _ A ({ A with thrs := A.thrs ++ [⟨wMore, []⟩] } : Scr) _ (HW.out _ HBF.out).1 HCF.out.rows.read HAZ.out HZC.out)
    rw [decide_eq_false HNE.out.symm] at HS1
    simp only at HS1
    refine HS1.out.mono ?_
    rintro e w8 ⟨rfl, hb8⟩
    have HB8 := Lib.hid (HWN.out _ _ HBF.out hb8)
    have HC8 := Lib.hid (HCF.out.below hb8)
    clear c0 c1 c2 c3 c4 c5 c6 c7 x0 x1 x2 x3 hb8 HS1
    obtain ⟨⟨c0, c1, c2, c3⟩, c4, c5, c6, c7⟩ := HKC.out _ HB8.out
    have x0 := (cell_of HC8.out.head 0).trans rfl
    have x1 := (cell_of HC8.out.head 1).trans rfl
    have x2 := (cell_of HC8.out.head 2).trans rfl
    have x3 := (cell_of HC8.out.head 3).trans rfl
    have HS2 := Lib.hid (sameS_walk _ _ _ _ _ _ _ VA ({ A with thrs := A.thrs ++ [⟨wMore, []⟩] } : Scr) A _ HC8.out.rows.read (HW.out _ HB8.out).1 HZC.out HAZ.out)
    rw [decide_eq_false HNE.out] at HS2
    simp only at HS2
    go_wp2_with fail
    refine HS2.out.mono ?_
    rintro e w9 ⟨rfl, hb9⟩
    have HB9 := Lib.hid (HWN.out _ _ HB8.out hb9)
    clear c0 c1 c2 c3 c4 c5 c6 c7 x0 x1 x2 x3 hb9 HS2
    go_wp2_with fail
    go_ret
    exact ⟨rfl, by rw [HRBE.out]; exact (HW.out _ HB9.out).2.2.2⟩
  · by_cases hl0 : A.thrs.length = 0
    · have hlb : ((A.thrs.length : Int) == 0) = true := by rw [hl0]; rfl
      clear hl0
      go_wp2_with fail
      go_ret
      exact ⟨rfl, by rw [HRBE.out]; exact (HW.out _ HB4.out).2.2.2⟩
    · have hlb : ((A.thrs.length : Int) == 0) = false := by rw [beq_eq_false_iff_ne]; omega
      have hth := HC.out.rows.thrs
      obtain ⟨g, cap, hp2⟩ : ∃ g cap, (.slice p2 A.thrs.length e2 : Value) = .slice (some ⟨g, 0, none⟩) A.thrs.length cap := by
        rcases hth.2 with ⟨e, h0⟩ | ⟨g, cap, cur, e, _⟩
        · exact absurd h0 hl0
        · exact ⟨g, cap, e⟩
      injection hp2 with hp2 _ hp3
      subst hp2 hp3
      obtain ⟨k, hk⟩ : ∃ k : Nat, (an : Int) % (A.thrs.length : Int) = (k : Int) := ⟨an % A.thrs.length, (Int.natCast_emod an A.thrs.length).symm⟩
      have hkl : k < A.thrs.length := by
        have h := Int.emod_lt_of_pos (an : Int) (show (0 : Int) < (A.thrs.length : Int) by omega)
        omega
      have htl : A.thrs.length ≤ 1048576 := HAT.out.1
      have hkt : Int.tmod (an : Int) (A.thrs.length : Int) = (k : Int) := by rw [← hk]; exact Int.tmod_eq_emod_of_nonneg (by omega)
      have hwa : IntKind.i64.wrap (an : Int) = an := by rw [IntKind.wrap_i64]; omega
      have hwk : IntKind.i64.wrap (k : Int) = k := by rw [IntKind.wrap_i64]; omega
      have hz0 : ¬ ((A.thrs.length : Int) = 0) := by omega
      go_upto_region 18 with fail
      refine wp_region_held_drew (S := fun w' => w'.cell? ⟨xb, 1, none⟩ = some (.slice (some ⟨g, 0, none⟩) A.thrs.length e2)) (by kernel_rfl) x1 (fun hHeld => ?_)
      have HD := Lib.hid (HC.out.below (show Below w4.heap.size w4 w4.drew from (Below.refl _ _).drew))
      have HB5 := Lib.hid HB4.out.drew
      have hszv : rb + 2 ≤ w4.drew.heap.size := hsz4
      generalize w4.drew = v4 at *
      refine takeH (i := 0) (v := ?v1) rfl (by kernel_rfl) (by kernel_rfl) (by kernel_rfl) (fun _ _ _ h => h) (by rfl) (by assumption) ?hy1 ?rest1
      case hy1 => (intro w hSw; (try dsimp only at hSw); first | (go_simp; done) | (go_simp; with_reducible rfl))
      try simp only [Act.put, List.setIfInBounds_toArray, List.set_cons_zero, List.set_cons_succ]
      refine takeH (i := 1) (v := ?v2) rfl (by kernel_rfl) (by kernel_rfl) (by kernel_rfl) (fun _ _ _ h => h) (by rfl) (by assumption) ?hy2 ?rest2
      case hy2 => (intro w hSw; (try dsimp only at hSw); first | (go_simp; done) | (go_simp; with_reducible rfl))
      try simp only [Act.put, List.setIfInBounds_toArray, List.set_cons_zero, List.set_cons_succ]
      refine takeH (i := 2) (v := ?v3) rfl (by kernel_rfl) (by kernel_rfl) (by kernel_rfl) (fun _ _ _ h => h) (by rfl) (by assumption) ?hy3 ?rest3
      case hy3 => (intro w hSw; (try dsimp only at hSw); first | (go_simp; done) | (go_simp; with_reducible rfl))
      try simp only [Act.put, List.setIfInBounds_toArray, List.set_cons_zero, List.set_cons_succ]
      refine takeH (i := 3) (v := ?v4) rfl (by kernel_rfl) (by kernel_rfl) (by kernel_rfl) (fun _ _ _ h => h) (by rfl) (by assumption) ?hy4 ?rest4
      case hy4 => (intro w hSw; (try dsimp only at hSw); first | (go_simp; done) | (go_simp; with_reducible rfl))
      try simp only [Act.put, List.setIfInBounds_toArray, List.set_cons_zero, List.set_cons_succ]
      refine takeH (i := 4) (v := ?v5) rfl (by kernel_rfl) (by kernel_rfl) (by kernel_rfl) (fun _ _ _ h => h) (by rfl) (by assumption) ?hy5 ?rest5
      case hy5 => (intro w hSw; (try dsimp only at hSw); first | (go_simp; done) | (go_simp; with_reducible rfl))
      try simp only [Act.put, List.setIfInBounds_toArray, List.set_cons_zero, List.set_cons_succ]
      refine takeH (i := 5) (v := ?v6) rfl (by kernel_rfl) (by kernel_rfl) (by kernel_rfl) (fun _ _ _ h => h) (by rfl) (by assumption) ?hy6 ?rest6
      case hy6 => (intro w hSw; (try dsimp only at hSw); first | (go_simp; done) | (go_simp; with_reducible rfl))
      try simp only [Act.put, List.setIfInBounds_toArray, List.set_cons_zero, List.set_cons_succ]
      refine takeH (i := 6) (v := ?v7) rfl (by kernel_rfl) (by kernel_rfl) (by kernel_rfl) (fun _ _ _ h => h) (by rfl) (by assumption) ?hy7 ?rest7
      case hy7 => (intro w hSw; (try dsimp only at hSw); first | (go_simp; done) | (go_simp; with_reducible rfl))
      try simp only [Act.put, List.setIfInBounds_toArray, List.set_cons_zero, List.set_cons_succ]
      refine takeH (i := 7) (v := ?v8) rfl (by kernel_rfl) (by kernel_rfl) (by kernel_rfl) (fun _ _ _ h => h) (by rfl) (by assumption) ?hy8 ?rest8
      case hy8 => (intro w hSw; (try dsimp only at hSw); first | (go_simp; done) | (go_simp; with_reducible rfl))
      try simp only [Act.put, List.setIfInBounds_toArray, List.set_cons_zero, List.set_cons_succ]
      refine takeH (i := 8) (v := ?v9) rfl (by kernel_rfl) (by kernel_rfl) (by kernel_rfl) (fun _ _ _ h => h) (by rfl) (by assumption) ?hy9 ?rest9
      case hy9 => (intro w hSw; (try dsimp only at hSw); first | (go_simp; done) | (go_simp; with_reducible rfl))
      try simp only [Act.put, List.setIfInBounds_toArray, List.set_cons_zero, List.set_cons_succ]
      refine wpAnyH_ready (rs := [9]) (by kernel_rfl) (by simp) (consH rfl (fun K hK => ?_) AllReadyH.nil)
      go_simp
      refine hK.out _ _ hHeld (fun hHeld => ?_)
      clear hK K
      try simp only [Act.put, List.setIfInBounds_toArray, List.set_cons_zero, List.set_cons_succ]
      refine wpAnyH_done (by kernel_rfl) ?_ _
      clear hHeld
      clear x0 x1 x2 x3 xf
      have hop : (A.thrs.getD k default).ops.length ≤ 1048576 := HAT.out.2.2 _ (getD_mem hkl)
      have hek := HD.out.rows.each k hkl
      obtain ⟨pk, ck, hvk⟩ := own_slice hek
      have hck := (hcell_name (o := 0) (g := g) (w := v4) (L := A.thrs) (V := XV) (by
        intro j hj
        have hr := RowAt.of_own HD.out.rows.thrs
        obtain ⟨q', c', e1', _, h2'⟩ := hr
        injection e1' with e11 _ _
        obtain ⟨g', o', e3', h4'⟩ := h2'.resolve_left (by intro e; rw [e] at hj; simp at hj)
        rw [← e11] at e3'
        injection e3' with e3'
        injection e3' with e4 e5 _
        subst e4
        have e6 : o' = 0 := e5.symm
        subst e6
        exact h4' j hj) hkl).2
      rw [Nat.zero_add] at hck
      have HSX := Lib.hid (src_one0 v4 #[.int .i64 (an : Int), .int .i64 0, .int .i64 0, .int .i64 0] 65 4 rfl (ocell_one ⟨an, 0, 0, 0⟩))
      have HRA := Lib.hid (hek.alloc (.cells #[.int .i64 (an : Int), .int .i64 0, .int .i64 0, .int .i64 0] 65))
      have HMORE := Lib.hid (fun v' w6 ha => HD.out.op (k := k) (p := ⟨an, 0, 0, 0⟩) (v' := v') (w1 := w6) (o := .cells #[.int .i64 (an : Int), .int .i64 0, .int .i64 0, .int .i64 0] 65) hkl ha)
      rw [hvk] at hck HRA HMORE
      have HNE : Hid (withOp A k ⟨an, 0, 0, 0⟩ ≠ A) := Lib.hid (withOp_ne hkl _)
      have HZC : Hid (SmallS (withOp A k ⟨an, 0, 0, 0⟩)) := Lib.hid ⟨HAZ.out.tops, by rw [withOp_len]; exact HAZ.out.thrs, HAZ.out.sch, (by
        intro t ht
        obtain ⟨i, hi, rfl⟩ := List.getElem_of_mem ht
        have hi2 : i < A.thrs.length := by rw [withOp_len] at hi; exact hi
        have h := withOp_get hkl (⟨an, 0, 0, 0⟩ : Opn) i hi2
        simp only [List.getD, List.getElem?_eq_getElem hi, Option.getD_some] at h
        rw [h]
        split
        · have h2 := hop
          simp only [List.getD] at h2
          simp
          omega
        · have h2 := HAZ.out.ops _ (getD_mem hi2)
          simpa only [List.getD] using h2), (by
        intro t ht
        obtain ⟨i, hi, rfl⟩ := List.getElem_of_mem ht
        have hi2 : i < A.thrs.length := by rw [withOp_len] at hi; exact hi
        have h := withOp_get hkl (⟨an, 0, 0, 0⟩ : Opn) i hi2
        simp only [List.getD, List.getElem?_eq_getElem hi, Option.getD_some] at h
        rw [h]
        split
        · have h2 := HAZ.out.names _ (getD_mem hkl)
          simpa only [List.getD] using h2
        · have h2 := HAZ.out.names _ (getD_mem hi2)
          simpa only [List.getD] using h2)⟩
      obtain ⟨i65, hi65, t0, t1, t2⟩ := info_parts info65
      have hsz5 : rb + 2 ≤ v4.heap.size := hszv
      clear hek hvk
      generalize A.thrs.getD k default = t at *
      go_wp2_with (at_builtin; go_must (refine wpList_append_row rfl (.tmp 90) (.tmp 94) 56 rfl (rb + 2) 65 i65 _ 4 32 under56 hi65 t0 t1 (by decide) t2 rfl (.slice pk t.ops.length ck) t.ops.length (ocells t.ops) rfl HRA.out 1 (ocell ⟨an, 0, 0, 0⟩) HSX.out ?l2 ?b2 ?n2 ?_); go_must (case l2 => (unfold maxLen; omega)); go_must (case b2 => omega); go_must (case n2 => (simp; omega)); intro v' w6 ha; go_must (obtain ⟨vp, vc, rfl⟩ := own_slice ha.1); go_must (obtain ⟨g1, g2, g3, g4⟩ := HMORE.out _ w6 ha); have HCF := Lib.hid g3; have HBF := Lib.hid (HB5.out.trans g4); clear g3 g4 ha; go_must (obtain ⟨⟨c0, c1, c2, c3⟩, c4, c5, c6, c7⟩ := HKC.out _ HBF.out); have x0 := (cell_of HCF.out.head 0).trans rfl; have x1 := (cell_of HCF.out.head 1).trans rfl; have x2 := (cell_of HCF.out.head 2).trans rfl; have x3 := (cell_of HCF.out.head 3).trans rfl)
      have HS1 := Lib.hid (sameS_walk _ _ _ _ _ _ VA _ A (withOp A k ⟨an, 0, 0, 0⟩ : Scr) _ (HW.out _ HBF.out).1 HCF.out.rows.read HAZ.out HZC.out)
      rw [decide_eq_false HNE.out.symm] at HS1
      try simp only at HS1
      refine HS1.out.mono ?_
      rintro e w8 ⟨rfl, hb8⟩
      have HB8 := Lib.hid (HWN.out _ _ HBF.out hb8)
      have HC8 := Lib.hid (HCF.out.below hb8)
      clear c0 c1 c2 c3 c4 c5 c6 c7 x0 x1 x2 x3 hb8 HS1
      obtain ⟨⟨c0, c1, c2, c3⟩, c4, c5, c6, c7⟩ := HKC.out _ HB8.out
      have x0 := (cell_of HC8.out.head 0).trans rfl
      have x1 := (cell_of HC8.out.head 1).trans rfl
      have x2 := (cell_of HC8.out.head 2).trans rfl
      have x3 := (cell_of HC8.out.head 3).trans rfl
      have HS2 := Lib.hid (sameS_walk _ _ _ _ _ _ _ VA (withOp A k ⟨an, 0, 0, 0⟩ : Scr) A _ HC8.out.rows.read (HW.out _ HB8.out).1 HZC.out HAZ.out)
      rw [decide_eq_false HNE.out] at HS2
      try simp only at HS2
      go_wp2_with fail
      refine HS2.out.mono ?_
      rintro e w9 ⟨rfl, hb9⟩
      have HB9 := Lib.hid (HWN.out _ _ HB8.out hb9)
      clear c0 c1 c2 c3 c4 c5 c6 c7 x0 x1 x2 x3 hb9 HS2
      go_wp2_with fail
      go_ret
      exact ⟨rfl, by rw [HRBE.out]; exact (HW.out _ HB9.out).2.2.2⟩
end Go.Proofs.YtdmhlhoimaeacaaDoor
