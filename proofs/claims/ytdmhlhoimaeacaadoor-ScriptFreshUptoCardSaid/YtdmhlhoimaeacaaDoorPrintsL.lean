/-
  The law ScriptPrints (f5). (The regions in hand-held orders are printed by wip/gen/prints.py.)
-/
import Derived.Test.YtdmhlhoimaeacaaDoorCopied
import Derived.Test.YtdmhlhoimaeacaaDoorOwnR
import Derived.Test.YtdmhlhoimaeacaaDoorReadsS
import Derived.Test.YtdmhlhoimaeacaaDoorRefSame
namespace Go.Proofs.YtdmhlhoimaeacaaDoor
open Go.RowKit Go.Maps PL
set_option linter.unusedVariables false

theorem kindsO : Kinds 34 62 58 := ⟨by decide, by decide, by decide, by decide, by decide, by decide, by decide, by decide, by decide⟩
theorem RowsS.base {w : World} {N N' eT eH : Nat} {tv hv sv : Value} {V : Nat → Value} {S : Scr} (h : RowsS w N eT eH tv hv sv V S) (hN : N' ≤ N) : RowsS w N' eT eH tv hv sv V S :=
  ⟨own_base h.tops hN, own_base h.sch hN, own_base h.thrs hN, fun i hi => own_base (h.each i hi) hN, h.apart⟩
theorem set4_grown (w : World) (g : Nat) (a b c d : Value) : w.grownBy ((((w.setCell ⟨g, 0, none⟩ a).setCell ⟨g, 1, none⟩ b).setCell ⟨g, 2, none⟩ c).setCell ⟨g, 3, none⟩ d) (some g) := by
  refine ⟨rfl, rfl, rfl, by simp [World.setCell], fun q hq hne => ?_⟩
  have e : q ≠ g := fun e => hne (by rw [e])
  exact set_keep (set_keep (set_keep (set_keep rfl e) e) e) e
theorem own_nil {w : World} {N e k n n' c : Nat} {v : Value} {xs : List Value} (h : w.ownsRow N e k v n xs) (hv : v = .slice none n' c) : n' = 0 ∧ c = 0 := by
  rcases h.2 with ⟨e1, _⟩ | ⟨q, cap, _, e1, _⟩
  · rw [e1] at hv
    injection hv with _ h2 h3
    exact ⟨h2.symm, h3.symm⟩
  · rw [e1] at hv
    injection hv with h1
    cases h1
theorem startF_len (S : Scr) : (startF S).length = S.tops.length * 2 := startG_len S.tops
theorem vcell_at {w : World} {B : Nat} {p : Option Addr} {c : Nat} {V : Nat → Value} {n : Nat} {L : List Thr} (h : Copies w B (.slice p n c) V n L) {i : Nat} (hi : i < n) : ∃ g o, p = some ⟨g, o, none⟩ ∧ w.cell? ⟨g, o + i, none⟩ = some (V i) := by
  have hr := RowAt.of_own h.row
  obtain ⟨q, c', e1, _, h2⟩ := hr
  injection e1 with e11 e12 e13
  subst e11
  obtain ⟨g, o, rfl, h3⟩ := h2.resolve_left (by intro e; have := congrArg List.length e; rw [vcells_length] at this; simp at this; omega)
  exact ⟨g, o, rfl, (h3 i (by rw [vcells_length]; exact hi)).trans (vcells_get n V i hi)⟩
/-- The copy and the document's. -/
def TwoP (w0 : World) (rb : Nat) (V : Nat → Value) (S : Scr) (ps : Option Addr) (cs : Nat) (p q : Value) (wx : World) : Prop :=
  ∃ xb ob p1 e1 p2 e2 p3 e3 XV q1 d1 q2 d2, p = .pointer (some ⟨xb, 0, none⟩) ∧ q = .pointer (some ⟨ob, 0, none⟩) ∧ wx.heap[xb]? = some (.cells #[.slice p1 S.tops.length e1, .slice p2 S.thrs.length e2, .slice p3 S.sch.length e3, .int .i64 S.most] 27 (0, 0)) ∧
    wx.heap[ob]? = some (.cells #[.slice q1 S.tops.length d1, .slice q2 S.thrs.length d2, .slice ps S.sch.length cs, .int .i64 S.most] 34 (0, 0)) ∧ RowsS wx (rb + 1) 62 58 (.slice p1 S.tops.length e1) (.slice p2 S.thrs.length e2) (.slice p3 S.sch.length e3) XV S ∧
    wx.ownsRow (rb + 1) 82 2 (.slice q1 S.tops.length d1) S.tops.length (tcells S.tops) ∧ wx.ownsRow (rb + 1) 83 2 (.slice q2 S.thrs.length d2) S.thrs.length (hcells S.thrs V) ∧ Below (rb + 1) w0 wx

set_option maxRecDepth 100000 in
set_option maxHeartbeats 16000000 in
theorem prints_law (N : Nat) (tv hv sv : Value) (V : Nat → Value) (S : Scr) (w : World) (hE : Env N w) (hI : ScrIn w tv hv sv V S) :
    Calls Tryd.prog 5 #[.agg #[tv, hv, sv, .int .i64 S.most]] w fun e w' => e = .returned (.bool true) ∧ Below w.heap.size w w' := by
  have hb2 : Below w.heap.size w (w.alloc (.cells #[tv, hv, sv, .int .i64 S.most] 27)) := (Below.refl _ _).alloc (Nat.le_refl _) _
  have HA := Lib.hid (hI.at_.below hb2)
  have HE := Lib.hid (hE.up hb2)
  have HB2 := Lib.hid hb2
  have HX := Lib.hid (heap_alloc_new w (.cells #[tv, hv, sv, .int .i64 S.most] 27))
  obtain ⟨h, htn, hhn, hsn, hvn, z, hN, htt, _⟩ := hI
  obtain ⟨pt, ct, rfl, hct, _⟩ := h.tops
  obtain ⟨ph, ch, rfl, hch, _⟩ := h.thrs
  obtain ⟨ps, cs, rfl, hcs, _⟩ := h.sch
  have HTN := Lib.hid htn
  have HSN := Lib.hid hsn
  have HVN := Lib.hid hvn
  have HZ := Lib.hid z
  have HN := Lib.hid hN
  have HSZ : Hid ((w.alloc (.cells #[.slice pt S.tops.length ct, .slice ph S.thrs.length ch, .slice ps S.sch.length cs, .int .i64 S.most] 27)).heap.size = w.heap.size + 1) := Lib.hid (by simp)
  clear h z hb2 hN hE hct hch hcs htn hhn hsn hvn
  go_enter Tryd.func5, Tryd.ntmps5
  go_upto_region 1 with fail
  generalize w.alloc (.cells #[.slice pt S.tops.length ct, .slice ph S.thrs.length ch, .slice ps S.sch.length cs, .int .i64 S.most] 27) = w0 at *
  generalize hrb : w.heap.size = rb at *
  have HRBE := Lib.hid hrb
  clear hrb
  have HW : Hid (∀ W, Below (rb + 1) w0 W → ScrAt W (.slice pt S.tops.length ct) (.slice ph S.thrs.length ch) (.slice ps S.sch.length cs) V S ∧ Env N W ∧ W.heap[rb]? = some (.cells #[.slice pt S.tops.length ct, .slice ph S.thrs.length ch, .slice ps S.sch.length cs, .int .i64 S.most] 27 (0, 0)) ∧ Below rb w W) := Lib.hid (fun W hW => by
    have h1 : Below w0.heap.size w0 W := by rw [HSZ.out]; exact hW
    exact ⟨HA.out.below h1, HE.out.up h1, (h1.block rb (by have := HSZ.out; omega)).trans HX.out, HB2.out.trans (hW.mono (Nat.le_succ rb))⟩)
  clear HA HE HB2
  have HWN : Hid (∀ W W', Below (rb + 1) w0 W → Below W.heap.size W W' → Below (rb + 1) w0 W') := Lib.hid (fun W W' h1 h2 => h1.trans (h2.mono (by have := h1.size; have := HSZ.out; omega)))
  have HKC : Hid (∀ W, Below (rb + 1) w0 W → W.cell? ⟨rb, 0, none⟩ = some (.slice pt S.tops.length ct) ∧ W.cell? ⟨rb, 1, none⟩ = some (.slice ph S.thrs.length ch) ∧ W.cell? ⟨rb, 2, none⟩ = some (.slice ps S.sch.length cs) ∧ W.cell? ⟨rb, 3, none⟩ = some (.int .i64 S.most)) := Lib.hid (fun W hW => by
    have hx := (HW.out W hW).2.2.1
    exact ⟨(cell_of hx 0).trans rfl, (cell_of hx 1).trans rfl, (cell_of hx 2).trans rfl, (cell_of hx 3).trans rfl⟩)
  have HCP : Hid (∀ W, Below (rb + 1) w0 W → Calls Tryd.prog 16 #[.agg #[.slice pt S.tops.length ct, .slice ph S.thrs.length ch, .slice ps S.sch.length cs, .int .i64 S.most]] W (CopyD S W)) := Lib.hid (fun W hW => copied_walk _ _ _ V S W (HW.out W hW).1 HZ.out HTN.out HSN.out HVN.out)
  have HOW : Hid (∀ W, Below (rb + 1) w0 W → Calls Tryd.prog 14 #[.agg #[.slice pt S.tops.length ct, .slice ph S.thrs.length ch, .slice ps S.sch.length cs, .int .i64 S.most]] W (OwnR V S (.slice ps S.sch.length cs) W)) := Lib.hid (fun W hW => own_rows _ _ _ V S W (HW.out W hW).1 HZ.out)
  have hb0 : Below (rb + 1) w0 w0 := Below.refl _ _
  have HR := Lib.hid (reads_walkS N w0 (HW.out w0 hb0).2.1)
  go_wp2_with fail
  refine HR.out.mono ?_
  rintro e w1 ⟨rfl, hb1⟩
  have HB1 := Lib.hid (HWN.out _ _ hb0 hb1)
  clear hb1 hb0 HR
  go_upto_region 3 with fail
  go_cut [3, 4, 13, 14, 15, 16] (fun p q _ _ _ _ wx => TwoP w0 rb V S ps cs p q wx)
  case first =>
    refine wp_region_held_drew (S := fun w' => w'.cell? ⟨rb, 0, none⟩ = some (.slice pt S.tops.length ct) ∧ w'.cell? ⟨rb, 1, none⟩ = some (.slice ph S.thrs.length ch) ∧ w'.cell? ⟨rb, 2, none⟩ = some (.slice ps S.sch.length cs) ∧ w'.cell? ⟨rb, 3, none⟩ = some (.int .i64 S.most)) (by kernel_rfl) (HKC.out _ HB1.out.drew) (fun hHeld => ?_)
    have hbw0 := HB1.out.drew
    generalize w1.drew = v0 at *
    refine takeH (i := 0) (v := ?v23) rfl (by kernel_rfl) (by kernel_rfl) (by kernel_rfl) (fun _ _ _ h => h) (by rfl) (by assumption) ?hy23 ?rest23
    case hy23 => (intro w hSw; (try dsimp only at hSw); first | (go_simp; done) | (go_simp; with_reducible rfl))
    try simp only [Act.put, List.setIfInBounds_toArray, List.set_cons_zero, List.set_cons_succ]
    refine takeH (i := 2) (v := ?v24) rfl (by kernel_rfl) (by kernel_rfl) (by kernel_rfl) (fun _ _ _ h => h) (by rfl) (by assumption) ?hy24 ?rest24
    case hy24 => (intro w hSw; (try dsimp only at hSw); first | (go_simp; done) | (go_simp; with_reducible rfl))
    try simp only [Act.put, List.setIfInBounds_toArray, List.set_cons_zero, List.set_cons_succ]
    refine wpAnyH_ready (rs := [1, 4, 5]) (by kernel_rfl) (by simp) (consH rfl (fun K hK => ?_) (consH rfl (fun K hK => ?_) (consH rfl (fun K hK => ?_) AllReadyH.nil)))
    · go_simp
      go_at_call 16
      refine (HCP.out _ hbw0).mono ?_
      rintro e v1 ⟨xt, xh, xs, XV, rfl, hrw, hb'⟩
      obtain ⟨p1, e1, rfl⟩ := own_slice hrw.tops
      obtain ⟨p2, e2, rfl⟩ := own_slice hrw.thrs
      obtain ⟨p3, e3, rfl⟩ := own_slice hrw.sch
      have hx1 := hrw.base (show rb + 1 ≤ v0.heap.size by have := hbw0.size; have := HSZ.out; omega)
      clear hrw
      have hbw1 := HWN.out _ _ hbw0 hb'
      refine hK.out _ _ (HKC.out _ hbw1) (fun hHeld => ?_)
      clear hK K hb' hbw0
      try simp only [Act.put, List.setIfInBounds_toArray, List.set_cons_zero, List.set_cons_succ]
      refine wpAnyH_ready (rs := [3, 4, 5]) (by kernel_rfl) (by simp) (consH rfl (fun K hK => ?_) (consH rfl (fun K hK => ?_) (consH rfl (fun K hK => ?_) AllReadyH.nil)))
      · go_simp
        go_at_call 14
        refine (HOW.out _ hbw1).mono ?_
        rintro e v2 ⟨yt, yh, rfl, hy1, hy2, hb'⟩
        obtain ⟨q1, d1, rfl⟩ := own_slice hy1
        obtain ⟨q2, d2, rfl⟩ := own_slice hy2
        have hyb : rb + 1 ≤ v1.heap.size := by have := hbw1.size; have := HSZ.out; omega
        have ho2 := own_base hy1 hyb
        have hu2 := own_base hy2 hyb
        clear hy1 hy2 hyb
        have hbw2 := HWN.out _ _ hbw1 hb'
        have hx2 := hx1.below hb'
        refine hK.out _ _ (HKC.out _ hbw2) (fun hHeld => ?_)
        clear hK K hb' hbw1 hx1
        try simp only [Act.put, List.setIfInBounds_toArray, List.set_cons_zero, List.set_cons_succ]
        refine wpAnyH_ready (rs := [4, 5]) (by kernel_rfl) (by simp) (consH rfl (fun K hK => ?_) (consH rfl (fun K hK => ?_) AllReadyH.nil))
        · go_simp
          have hA3 := heap_alloc_new v2 (.cells #[.slice none 0 0, .slice none 0 0, .slice none 0 0, .int .i64 0] 27)
          have hb' := (Below.refl v2.heap.size v2).alloc (Nat.le_refl _) (.cells #[.slice none 0 0, .slice none 0 0, .slice none 0 0, .int .i64 0] 27)
          obtain ⟨xb, hxb⟩ : ∃ q, q = v2.heap.size := ⟨_, rfl⟩
          have hxbl : rb + 1 ≤ xb := by have := hbw2.size; have := HSZ.out; omega
          rw [← hxb] at hA3 ⊢
          clear hxb
          generalize v2.alloc (.cells #[.slice none 0 0, .slice none 0 0, .slice none 0 0, .int .i64 0] 27) = v3 at *
          have hbw3 := HWN.out _ _ hbw2 hb'
          have hx3 := hx2.below hb'
          have ho3 := own_below ho2 hb'
          have hu3 := own_below hu2 hb'
          refine hK.out _ _ (HKC.out _ hbw3) (fun hHeld => ?_)
          clear hK K hb' hbw2 hx2 ho2 hu2
          try simp only [Act.put, List.setIfInBounds_toArray, List.set_cons_zero, List.set_cons_succ]
          refine wpAnyH_ready (rs := [5]) (by kernel_rfl) (by simp) (consH rfl (fun K hK => ?_) AllReadyH.nil)
          go_simp
          have hB4 := heap_alloc_new v3 (.cells #[.slice none 0 0, .slice none 0 0, .slice none 0 0, .int .i64 0] 34)
          have hb' := (Below.refl v3.heap.size v3).alloc (Nat.le_refl _) (.cells #[.slice none 0 0, .slice none 0 0, .slice none 0 0, .int .i64 0] 34)
          obtain ⟨ob, hob⟩ : ∃ q, q = v3.heap.size := ⟨_, rfl⟩
          have hobl : rb + 1 ≤ ob := by have := hbw3.size; have := HSZ.out; omega
          rw [← hob] at hB4 ⊢
          clear hob
          generalize v3.alloc (.cells #[.slice none 0 0, .slice none 0 0, .slice none 0 0, .int .i64 0] 34) = v4 at *
          have hbw4 := HWN.out _ _ hbw3 hb'
          have hx4 := hx3.below hb'
          have ho4 := own_below ho3 hb'
          have hu4 := own_below hu3 hb'
          have hA4 := (hb'.block xb (Array.getElem?_eq_some_iff.1 hA3).1).trans hA3
          refine hK.out _ _ (HKC.out _ hbw4) (fun hHeld => ?_)
          clear hK K hb' hbw3 hx3 ho3 hu3 hA3
          try simp only [Act.put, List.setIfInBounds_toArray, List.set_cons_zero, List.set_cons_succ]
          have hne : ob ≠ xb := by intro e; subst e; rw [hA4] at hB4; cases hB4
          have n0 := (cell_of hA4 0).trans rfl
          have n1 := (cell_of hA4 1).trans rfl
          have n2 := (cell_of hA4 2).trans rfl
          have n3 := (cell_of hA4 3).trans rfl
          have f0 := free_of hA4 0
          have f1 := free_of hA4 1
          have f2 := free_of hA4 2
          have f3 := free_of hA4 3
          refine wpAnyH_ready (rs := [6]) (by kernel_rfl) (by simp) (consH rfl (fun K hK => ?_) AllReadyH.nil)
          go_simp
          have hst := store_scrT hA4 rfl hbw4 hxbl (.slice p1 S.tops.length e1) (.slice p2 S.thrs.length e2) (.slice p3 S.sch.length e3) (.int .i64 S.most)
          have hg := set4_grown v4 xb (.slice p1 S.tops.length e1) (.slice p2 S.thrs.length e2) (.slice p3 S.sch.length e3) (.int .i64 S.most)
          have hx5 := hx4.head kindsC hA4 hg
          have ho5 := own_head ho4 hA4 hg (by decide)
          have hu5 := own_head hu4 hA4 hg (by decide)
          have hB5 := (hg.block ob (Array.getElem?_eq_some_iff.1 hB4).1 (by simpa using hne)).trans hB4
          have hA5 := hst.1
          have hbw5 := hst.2
          clear hst hg n0 n1 n2 n3 f0 f1 f2 f3
          clear hx4 ho4 hu4 hA4 hB4 hbw4
          generalize ((((v4.setCell ⟨xb, 0, none⟩ (.slice p1 S.tops.length e1)).setCell ⟨xb, 1, none⟩ (.slice p2 S.thrs.length e2)).setCell ⟨xb, 2, none⟩ (.slice p3 S.sch.length e3)).setCell ⟨xb, 3, none⟩ (.int .i64 S.most)) = v5 at *
          refine hK.out _ _ (HKC.out _ hbw5) (fun hHeld => ?_)
          clear hK K
          try simp only [Act.put, List.setIfInBounds_toArray, List.set_cons_zero, List.set_cons_succ]
          have n0 := (cell_of hB5 0).trans rfl
          have n1 := (cell_of hB5 1).trans rfl
          have n2 := (cell_of hB5 2).trans rfl
          have n3 := (cell_of hB5 3).trans rfl
          have f0 := free_of hB5 0
          have f1 := free_of hB5 1
          have f2 := free_of hB5 2
          have f3 := free_of hB5 3
          refine wpAnyH_ready (rs := [7]) (by kernel_rfl) (by simp) (consH rfl (fun K hK => ?_) AllReadyH.nil)
          go_simp
          have hst := store_scrT hB5 rfl hbw5 hobl (.slice q1 S.tops.length d1) (.slice q2 S.thrs.length d2) (.slice ps S.sch.length cs) (.int .i64 S.most)
          have hg := set4_grown v5 ob (.slice q1 S.tops.length d1) (.slice q2 S.thrs.length d2) (.slice ps S.sch.length cs) (.int .i64 S.most)
          have hx6 := hx5.head kindsO hB5 hg
          have ho6 := own_head ho5 hB5 hg (by decide)
          have hu6 := own_head hu5 hB5 hg (by decide)
          have hA6 := (hg.block xb (Array.getElem?_eq_some_iff.1 hA5).1 (by simpa using hne.symm)).trans hA5
          have hB6 := hst.1
          have hbw6 := hst.2
          clear hst hg n0 n1 n2 n3 f0 f1 f2 f3
          refine hK.out _ _ (HKC.out _ hbw6) (fun hHeld => ?_)
          clear hK K
          try simp only [Act.put, List.setIfInBounds_toArray, List.set_cons_zero, List.set_cons_succ]
          refine wpAnyH_done (by kernel_rfl) ?_ _
          go_wp2_with fail
          go_meet
          exact ⟨xb, ob, p1, e1, p2, e2, p3, e3, XV, q1, d1, q2, d2, rfl, rfl, hA6, hB6, hx6, ho6, hu6, hbw6⟩
        · go_simp
          have hB3 := heap_alloc_new v2 (.cells #[.slice none 0 0, .slice none 0 0, .slice none 0 0, .int .i64 0] 34)
          have hb' := (Below.refl v2.heap.size v2).alloc (Nat.le_refl _) (.cells #[.slice none 0 0, .slice none 0 0, .slice none 0 0, .int .i64 0] 34)
          obtain ⟨ob, hob⟩ : ∃ q, q = v2.heap.size := ⟨_, rfl⟩
          have hobl : rb + 1 ≤ ob := by have := hbw2.size; have := HSZ.out; omega
          rw [← hob] at hB3 ⊢
          clear hob
          generalize v2.alloc (.cells #[.slice none 0 0, .slice none 0 0, .slice none 0 0, .int .i64 0] 34) = v3 at *
          have hbw3 := HWN.out _ _ hbw2 hb'
          have hx3 := hx2.below hb'
          have ho3 := own_below ho2 hb'
          have hu3 := own_below hu2 hb'
          refine hK.out _ _ (HKC.out _ hbw3) (fun hHeld => ?_)
          clear hK K hb' hbw2 hx2 ho2 hu2
          try simp only [Act.put, List.setIfInBounds_toArray, List.set_cons_zero, List.set_cons_succ]
          refine wpAnyH_ready (rs := [4]) (by kernel_rfl) (by simp) (consH rfl (fun K hK => ?_) AllReadyH.nil)
          go_simp
          have hA4 := heap_alloc_new v3 (.cells #[.slice none 0 0, .slice none 0 0, .slice none 0 0, .int .i64 0] 27)
          have hb' := (Below.refl v3.heap.size v3).alloc (Nat.le_refl _) (.cells #[.slice none 0 0, .slice none 0 0, .slice none 0 0, .int .i64 0] 27)
          obtain ⟨xb, hxb⟩ : ∃ q, q = v3.heap.size := ⟨_, rfl⟩
          have hxbl : rb + 1 ≤ xb := by have := hbw3.size; have := HSZ.out; omega
          rw [← hxb] at hA4 ⊢
          clear hxb
          generalize v3.alloc (.cells #[.slice none 0 0, .slice none 0 0, .slice none 0 0, .int .i64 0] 27) = v4 at *
          have hbw4 := HWN.out _ _ hbw3 hb'
          have hx4 := hx3.below hb'
          have ho4 := own_below ho3 hb'
          have hu4 := own_below hu3 hb'
          have hB4 := (hb'.block ob (Array.getElem?_eq_some_iff.1 hB3).1).trans hB3
          refine hK.out _ _ (HKC.out _ hbw4) (fun hHeld => ?_)
          clear hK K hb' hbw3 hx3 ho3 hu3 hB3
          try simp only [Act.put, List.setIfInBounds_toArray, List.set_cons_zero, List.set_cons_succ]
          have hne : ob ≠ xb := by intro e; subst e; rw [hA4] at hB4; cases hB4
          have n0 := (cell_of hA4 0).trans rfl
          have n1 := (cell_of hA4 1).trans rfl
          have n2 := (cell_of hA4 2).trans rfl
          have n3 := (cell_of hA4 3).trans rfl
          have f0 := free_of hA4 0
          have f1 := free_of hA4 1
          have f2 := free_of hA4 2
          have f3 := free_of hA4 3
          refine wpAnyH_ready (rs := [6]) (by kernel_rfl) (by simp) (consH rfl (fun K hK => ?_) AllReadyH.nil)
          go_simp
          have hst := store_scrT hA4 rfl hbw4 hxbl (.slice p1 S.tops.length e1) (.slice p2 S.thrs.length e2) (.slice p3 S.sch.length e3) (.int .i64 S.most)
          have hg := set4_grown v4 xb (.slice p1 S.tops.length e1) (.slice p2 S.thrs.length e2) (.slice p3 S.sch.length e3) (.int .i64 S.most)
          have hx5 := hx4.head kindsC hA4 hg
          have ho5 := own_head ho4 hA4 hg (by decide)
          have hu5 := own_head hu4 hA4 hg (by decide)
          have hB5 := (hg.block ob (Array.getElem?_eq_some_iff.1 hB4).1 (by simpa using hne)).trans hB4
          have hA5 := hst.1
          have hbw5 := hst.2
          clear hst hg n0 n1 n2 n3 f0 f1 f2 f3
          clear hx4 ho4 hu4 hA4 hB4 hbw4
          generalize ((((v4.setCell ⟨xb, 0, none⟩ (.slice p1 S.tops.length e1)).setCell ⟨xb, 1, none⟩ (.slice p2 S.thrs.length e2)).setCell ⟨xb, 2, none⟩ (.slice p3 S.sch.length e3)).setCell ⟨xb, 3, none⟩ (.int .i64 S.most)) = v5 at *
          refine hK.out _ _ (HKC.out _ hbw5) (fun hHeld => ?_)
          clear hK K
          try simp only [Act.put, List.setIfInBounds_toArray, List.set_cons_zero, List.set_cons_succ]
          have n0 := (cell_of hB5 0).trans rfl
          have n1 := (cell_of hB5 1).trans rfl
          have n2 := (cell_of hB5 2).trans rfl
          have n3 := (cell_of hB5 3).trans rfl
          have f0 := free_of hB5 0
          have f1 := free_of hB5 1
          have f2 := free_of hB5 2
          have f3 := free_of hB5 3
          refine wpAnyH_ready (rs := [7]) (by kernel_rfl) (by simp) (consH rfl (fun K hK => ?_) AllReadyH.nil)
          go_simp
          have hst := store_scrT hB5 rfl hbw5 hobl (.slice q1 S.tops.length d1) (.slice q2 S.thrs.length d2) (.slice ps S.sch.length cs) (.int .i64 S.most)
          have hg := set4_grown v5 ob (.slice q1 S.tops.length d1) (.slice q2 S.thrs.length d2) (.slice ps S.sch.length cs) (.int .i64 S.most)
          have hx6 := hx5.head kindsO hB5 hg
          have ho6 := own_head ho5 hB5 hg (by decide)
          have hu6 := own_head hu5 hB5 hg (by decide)
          have hA6 := (hg.block xb (Array.getElem?_eq_some_iff.1 hA5).1 (by simpa using hne.symm)).trans hA5
          have hB6 := hst.1
          have hbw6 := hst.2
          clear hst hg n0 n1 n2 n3 f0 f1 f2 f3
          refine hK.out _ _ (HKC.out _ hbw6) (fun hHeld => ?_)
          clear hK K
          try simp only [Act.put, List.setIfInBounds_toArray, List.set_cons_zero, List.set_cons_succ]
          refine wpAnyH_done (by kernel_rfl) ?_ _
          go_wp2_with fail
          go_meet
          exact ⟨xb, ob, p1, e1, p2, e2, p3, e3, XV, q1, d1, q2, d2, rfl, rfl, hA6, hB6, hx6, ho6, hu6, hbw6⟩
      · go_simp
        have hA2 := heap_alloc_new v1 (.cells #[.slice none 0 0, .slice none 0 0, .slice none 0 0, .int .i64 0] 27)
        have hb' := (Below.refl v1.heap.size v1).alloc (Nat.le_refl _) (.cells #[.slice none 0 0, .slice none 0 0, .slice none 0 0, .int .i64 0] 27)
        obtain ⟨xb, hxb⟩ : ∃ q, q = v1.heap.size := ⟨_, rfl⟩
        have hxbl : rb + 1 ≤ xb := by have := hbw1.size; have := HSZ.out; omega
        rw [← hxb] at hA2 ⊢
        clear hxb
        generalize v1.alloc (.cells #[.slice none 0 0, .slice none 0 0, .slice none 0 0, .int .i64 0] 27) = v2 at *
        have hbw2 := HWN.out _ _ hbw1 hb'
        have hx2 := hx1.below hb'
        refine hK.out _ _ (HKC.out _ hbw2) (fun hHeld => ?_)
        clear hK K hb' hbw1 hx1
        try simp only [Act.put, List.setIfInBounds_toArray, List.set_cons_zero, List.set_cons_succ]
        refine wpAnyH_ready (rs := [3, 5]) (by kernel_rfl) (by simp) (consH rfl (fun K hK => ?_) (consH rfl (fun K hK => ?_) AllReadyH.nil))
        · go_simp
          go_at_call 14
          refine (HOW.out _ hbw2).mono ?_
          rintro e v3 ⟨yt, yh, rfl, hy1, hy2, hb'⟩
          obtain ⟨q1, d1, rfl⟩ := own_slice hy1
          obtain ⟨q2, d2, rfl⟩ := own_slice hy2
          have hyb : rb + 1 ≤ v2.heap.size := by have := hbw2.size; have := HSZ.out; omega
          have ho3 := own_base hy1 hyb
          have hu3 := own_base hy2 hyb
          clear hy1 hy2 hyb
          have hbw3 := HWN.out _ _ hbw2 hb'
          have hx3 := hx2.below hb'
          have hA3 := (hb'.block xb (Array.getElem?_eq_some_iff.1 hA2).1).trans hA2
          refine hK.out _ _ (HKC.out _ hbw3) (fun hHeld => ?_)
          clear hK K hb' hbw2 hx2 hA2
          try simp only [Act.put, List.setIfInBounds_toArray, List.set_cons_zero, List.set_cons_succ]
          refine wpAnyH_ready (rs := [5]) (by kernel_rfl) (by simp) (consH rfl (fun K hK => ?_) AllReadyH.nil)
          go_simp
          have hB4 := heap_alloc_new v3 (.cells #[.slice none 0 0, .slice none 0 0, .slice none 0 0, .int .i64 0] 34)
          have hb' := (Below.refl v3.heap.size v3).alloc (Nat.le_refl _) (.cells #[.slice none 0 0, .slice none 0 0, .slice none 0 0, .int .i64 0] 34)
          obtain ⟨ob, hob⟩ : ∃ q, q = v3.heap.size := ⟨_, rfl⟩
          have hobl : rb + 1 ≤ ob := by have := hbw3.size; have := HSZ.out; omega
          rw [← hob] at hB4 ⊢
          clear hob
          generalize v3.alloc (.cells #[.slice none 0 0, .slice none 0 0, .slice none 0 0, .int .i64 0] 34) = v4 at *
          have hbw4 := HWN.out _ _ hbw3 hb'
          have hx4 := hx3.below hb'
          have ho4 := own_below ho3 hb'
          have hu4 := own_below hu3 hb'
          have hA4 := (hb'.block xb (Array.getElem?_eq_some_iff.1 hA3).1).trans hA3
          refine hK.out _ _ (HKC.out _ hbw4) (fun hHeld => ?_)
          clear hK K hb' hbw3 hx3 ho3 hu3 hA3
          try simp only [Act.put, List.setIfInBounds_toArray, List.set_cons_zero, List.set_cons_succ]
          have hne : ob ≠ xb := by intro e; subst e; rw [hA4] at hB4; cases hB4
          have n0 := (cell_of hA4 0).trans rfl
          have n1 := (cell_of hA4 1).trans rfl
          have n2 := (cell_of hA4 2).trans rfl
          have n3 := (cell_of hA4 3).trans rfl
          have f0 := free_of hA4 0
          have f1 := free_of hA4 1
          have f2 := free_of hA4 2
          have f3 := free_of hA4 3
          refine wpAnyH_ready (rs := [6]) (by kernel_rfl) (by simp) (consH rfl (fun K hK => ?_) AllReadyH.nil)
          go_simp
          have hst := store_scrT hA4 rfl hbw4 hxbl (.slice p1 S.tops.length e1) (.slice p2 S.thrs.length e2) (.slice p3 S.sch.length e3) (.int .i64 S.most)
          have hg := set4_grown v4 xb (.slice p1 S.tops.length e1) (.slice p2 S.thrs.length e2) (.slice p3 S.sch.length e3) (.int .i64 S.most)
          have hx5 := hx4.head kindsC hA4 hg
          have ho5 := own_head ho4 hA4 hg (by decide)
          have hu5 := own_head hu4 hA4 hg (by decide)
          have hB5 := (hg.block ob (Array.getElem?_eq_some_iff.1 hB4).1 (by simpa using hne)).trans hB4
          have hA5 := hst.1
          have hbw5 := hst.2
          clear hst hg n0 n1 n2 n3 f0 f1 f2 f3
          clear hx4 ho4 hu4 hA4 hB4 hbw4
          generalize ((((v4.setCell ⟨xb, 0, none⟩ (.slice p1 S.tops.length e1)).setCell ⟨xb, 1, none⟩ (.slice p2 S.thrs.length e2)).setCell ⟨xb, 2, none⟩ (.slice p3 S.sch.length e3)).setCell ⟨xb, 3, none⟩ (.int .i64 S.most)) = v5 at *
          refine hK.out _ _ (HKC.out _ hbw5) (fun hHeld => ?_)
          clear hK K
          try simp only [Act.put, List.setIfInBounds_toArray, List.set_cons_zero, List.set_cons_succ]
          have n0 := (cell_of hB5 0).trans rfl
          have n1 := (cell_of hB5 1).trans rfl
          have n2 := (cell_of hB5 2).trans rfl
          have n3 := (cell_of hB5 3).trans rfl
          have f0 := free_of hB5 0
          have f1 := free_of hB5 1
          have f2 := free_of hB5 2
          have f3 := free_of hB5 3
          refine wpAnyH_ready (rs := [7]) (by kernel_rfl) (by simp) (consH rfl (fun K hK => ?_) AllReadyH.nil)
          go_simp
          have hst := store_scrT hB5 rfl hbw5 hobl (.slice q1 S.tops.length d1) (.slice q2 S.thrs.length d2) (.slice ps S.sch.length cs) (.int .i64 S.most)
          have hg := set4_grown v5 ob (.slice q1 S.tops.length d1) (.slice q2 S.thrs.length d2) (.slice ps S.sch.length cs) (.int .i64 S.most)
          have hx6 := hx5.head kindsO hB5 hg
          have ho6 := own_head ho5 hB5 hg (by decide)
          have hu6 := own_head hu5 hB5 hg (by decide)
          have hA6 := (hg.block xb (Array.getElem?_eq_some_iff.1 hA5).1 (by simpa using hne.symm)).trans hA5
          have hB6 := hst.1
          have hbw6 := hst.2
          clear hst hg n0 n1 n2 n3 f0 f1 f2 f3
          refine hK.out _ _ (HKC.out _ hbw6) (fun hHeld => ?_)
          clear hK K
          try simp only [Act.put, List.setIfInBounds_toArray, List.set_cons_zero, List.set_cons_succ]
          refine wpAnyH_done (by kernel_rfl) ?_ _
          go_wp2_with fail
          go_meet
          exact ⟨xb, ob, p1, e1, p2, e2, p3, e3, XV, q1, d1, q2, d2, rfl, rfl, hA6, hB6, hx6, ho6, hu6, hbw6⟩
        · go_simp
          have hB3 := heap_alloc_new v2 (.cells #[.slice none 0 0, .slice none 0 0, .slice none 0 0, .int .i64 0] 34)
          have hb' := (Below.refl v2.heap.size v2).alloc (Nat.le_refl _) (.cells #[.slice none 0 0, .slice none 0 0, .slice none 0 0, .int .i64 0] 34)
          obtain ⟨ob, hob⟩ : ∃ q, q = v2.heap.size := ⟨_, rfl⟩
          have hobl : rb + 1 ≤ ob := by have := hbw2.size; have := HSZ.out; omega
          rw [← hob] at hB3 ⊢
          clear hob
          generalize v2.alloc (.cells #[.slice none 0 0, .slice none 0 0, .slice none 0 0, .int .i64 0] 34) = v3 at *
          have hbw3 := HWN.out _ _ hbw2 hb'
          have hx3 := hx2.below hb'
          have hA3 := (hb'.block xb (Array.getElem?_eq_some_iff.1 hA2).1).trans hA2
          refine hK.out _ _ (HKC.out _ hbw3) (fun hHeld => ?_)
          clear hK K hb' hbw2 hx2 hA2
          try simp only [Act.put, List.setIfInBounds_toArray, List.set_cons_zero, List.set_cons_succ]
          refine wpAnyH_ready (rs := [3]) (by kernel_rfl) (by simp) (consH rfl (fun K hK => ?_) AllReadyH.nil)
          go_simp
          go_at_call 14
          refine (HOW.out _ hbw3).mono ?_
          rintro e v4 ⟨yt, yh, rfl, hy1, hy2, hb'⟩
          obtain ⟨q1, d1, rfl⟩ := own_slice hy1
          obtain ⟨q2, d2, rfl⟩ := own_slice hy2
          have hyb : rb + 1 ≤ v3.heap.size := by have := hbw3.size; have := HSZ.out; omega
          have ho4 := own_base hy1 hyb
          have hu4 := own_base hy2 hyb
          clear hy1 hy2 hyb
          have hbw4 := HWN.out _ _ hbw3 hb'
          have hx4 := hx3.below hb'
          have hA4 := (hb'.block xb (Array.getElem?_eq_some_iff.1 hA3).1).trans hA3
          have hB4 := (hb'.block ob (Array.getElem?_eq_some_iff.1 hB3).1).trans hB3
          refine hK.out _ _ (HKC.out _ hbw4) (fun hHeld => ?_)
          clear hK K hb' hbw3 hx3 hA3 hB3
          try simp only [Act.put, List.setIfInBounds_toArray, List.set_cons_zero, List.set_cons_succ]
          have hne : ob ≠ xb := by intro e; subst e; rw [hA4] at hB4; cases hB4
          have n0 := (cell_of hA4 0).trans rfl
          have n1 := (cell_of hA4 1).trans rfl
          have n2 := (cell_of hA4 2).trans rfl
          have n3 := (cell_of hA4 3).trans rfl
          have f0 := free_of hA4 0
          have f1 := free_of hA4 1
          have f2 := free_of hA4 2
          have f3 := free_of hA4 3
          refine wpAnyH_ready (rs := [6]) (by kernel_rfl) (by simp) (consH rfl (fun K hK => ?_) AllReadyH.nil)
          go_simp
          have hst := store_scrT hA4 rfl hbw4 hxbl (.slice p1 S.tops.length e1) (.slice p2 S.thrs.length e2) (.slice p3 S.sch.length e3) (.int .i64 S.most)
          have hg := set4_grown v4 xb (.slice p1 S.tops.length e1) (.slice p2 S.thrs.length e2) (.slice p3 S.sch.length e3) (.int .i64 S.most)
          have hx5 := hx4.head kindsC hA4 hg
          have ho5 := own_head ho4 hA4 hg (by decide)
          have hu5 := own_head hu4 hA4 hg (by decide)
          have hB5 := (hg.block ob (Array.getElem?_eq_some_iff.1 hB4).1 (by simpa using hne)).trans hB4
          have hA5 := hst.1
          have hbw5 := hst.2
          clear hst hg n0 n1 n2 n3 f0 f1 f2 f3
          clear hx4 ho4 hu4 hA4 hB4 hbw4
          generalize ((((v4.setCell ⟨xb, 0, none⟩ (.slice p1 S.tops.length e1)).setCell ⟨xb, 1, none⟩ (.slice p2 S.thrs.length e2)).setCell ⟨xb, 2, none⟩ (.slice p3 S.sch.length e3)).setCell ⟨xb, 3, none⟩ (.int .i64 S.most)) = v5 at *
          refine hK.out _ _ (HKC.out _ hbw5) (fun hHeld => ?_)
          clear hK K
          try simp only [Act.put, List.setIfInBounds_toArray, List.set_cons_zero, List.set_cons_succ]
          have n0 := (cell_of hB5 0).trans rfl
          have n1 := (cell_of hB5 1).trans rfl
          have n2 := (cell_of hB5 2).trans rfl
          have n3 := (cell_of hB5 3).trans rfl
          have f0 := free_of hB5 0
          have f1 := free_of hB5 1
          have f2 := free_of hB5 2
          have f3 := free_of hB5 3
          refine wpAnyH_ready (rs := [7]) (by kernel_rfl) (by simp) (consH rfl (fun K hK => ?_) AllReadyH.nil)
          go_simp
          have hst := store_scrT hB5 rfl hbw5 hobl (.slice q1 S.tops.length d1) (.slice q2 S.thrs.length d2) (.slice ps S.sch.length cs) (.int .i64 S.most)
          have hg := set4_grown v5 ob (.slice q1 S.tops.length d1) (.slice q2 S.thrs.length d2) (.slice ps S.sch.length cs) (.int .i64 S.most)
          have hx6 := hx5.head kindsO hB5 hg
          have ho6 := own_head ho5 hB5 hg (by decide)
          have hu6 := own_head hu5 hB5 hg (by decide)
          have hA6 := (hg.block xb (Array.getElem?_eq_some_iff.1 hA5).1 (by simpa using hne.symm)).trans hA5
          have hB6 := hst.1
          have hbw6 := hst.2
          clear hst hg n0 n1 n2 n3 f0 f1 f2 f3
          refine hK.out _ _ (HKC.out _ hbw6) (fun hHeld => ?_)
          clear hK K
          try simp only [Act.put, List.setIfInBounds_toArray, List.set_cons_zero, List.set_cons_succ]
          refine wpAnyH_done (by kernel_rfl) ?_ _
          go_wp2_with fail
          go_meet
          exact ⟨xb, ob, p1, e1, p2, e2, p3, e3, XV, q1, d1, q2, d2, rfl, rfl, hA6, hB6, hx6, ho6, hu6, hbw6⟩
      · go_simp
        have hB2 := heap_alloc_new v1 (.cells #[.slice none 0 0, .slice none 0 0, .slice none 0 0, .int .i64 0] 34)
        have hb' := (Below.refl v1.heap.size v1).alloc (Nat.le_refl _) (.cells #[.slice none 0 0, .slice none 0 0, .slice none 0 0, .int .i64 0] 34)
        obtain ⟨ob, hob⟩ : ∃ q, q = v1.heap.size := ⟨_, rfl⟩
        have hobl : rb + 1 ≤ ob := by have := hbw1.size; have := HSZ.out; omega
        rw [← hob] at hB2 ⊢
        clear hob
        generalize v1.alloc (.cells #[.slice none 0 0, .slice none 0 0, .slice none 0 0, .int .i64 0] 34) = v2 at *
        have hbw2 := HWN.out _ _ hbw1 hb'
        have hx2 := hx1.below hb'
        refine hK.out _ _ (HKC.out _ hbw2) (fun hHeld => ?_)
        clear hK K hb' hbw1 hx1
        try simp only [Act.put, List.setIfInBounds_toArray, List.set_cons_zero, List.set_cons_succ]
        refine wpAnyH_ready (rs := [3, 4]) (by kernel_rfl) (by simp) (consH rfl (fun K hK => ?_) (consH rfl (fun K hK => ?_) AllReadyH.nil))
        · go_simp
          go_at_call 14
          refine (HOW.out _ hbw2).mono ?_
          rintro e v3 ⟨yt, yh, rfl, hy1, hy2, hb'⟩
          obtain ⟨q1, d1, rfl⟩ := own_slice hy1
          obtain ⟨q2, d2, rfl⟩ := own_slice hy2
          have hyb : rb + 1 ≤ v2.heap.size := by have := hbw2.size; have := HSZ.out; omega
          have ho3 := own_base hy1 hyb
          have hu3 := own_base hy2 hyb
          clear hy1 hy2 hyb
          have hbw3 := HWN.out _ _ hbw2 hb'
          have hx3 := hx2.below hb'
          have hB3 := (hb'.block ob (Array.getElem?_eq_some_iff.1 hB2).1).trans hB2
          refine hK.out _ _ (HKC.out _ hbw3) (fun hHeld => ?_)
          clear hK K hb' hbw2 hx2 hB2
          try simp only [Act.put, List.setIfInBounds_toArray, List.set_cons_zero, List.set_cons_succ]
          refine wpAnyH_ready (rs := [4]) (by kernel_rfl) (by simp) (consH rfl (fun K hK => ?_) AllReadyH.nil)
          go_simp
          have hA4 := heap_alloc_new v3 (.cells #[.slice none 0 0, .slice none 0 0, .slice none 0 0, .int .i64 0] 27)
          have hb' := (Below.refl v3.heap.size v3).alloc (Nat.le_refl _) (.cells #[.slice none 0 0, .slice none 0 0, .slice none 0 0, .int .i64 0] 27)
          obtain ⟨xb, hxb⟩ : ∃ q, q = v3.heap.size := ⟨_, rfl⟩
          have hxbl : rb + 1 ≤ xb := by have := hbw3.size; have := HSZ.out; omega
          rw [← hxb] at hA4 ⊢
          clear hxb
          generalize v3.alloc (.cells #[.slice none 0 0, .slice none 0 0, .slice none 0 0, .int .i64 0] 27) = v4 at *
          have hbw4 := HWN.out _ _ hbw3 hb'
          have hx4 := hx3.below hb'
          have ho4 := own_below ho3 hb'
          have hu4 := own_below hu3 hb'
          have hB4 := (hb'.block ob (Array.getElem?_eq_some_iff.1 hB3).1).trans hB3
          refine hK.out _ _ (HKC.out _ hbw4) (fun hHeld => ?_)
          clear hK K hb' hbw3 hx3 ho3 hu3 hB3
          try simp only [Act.put, List.setIfInBounds_toArray, List.set_cons_zero, List.set_cons_succ]
          have hne : ob ≠ xb := by intro e; subst e; rw [hA4] at hB4; cases hB4
          have n0 := (cell_of hA4 0).trans rfl
          have n1 := (cell_of hA4 1).trans rfl
          have n2 := (cell_of hA4 2).trans rfl
          have n3 := (cell_of hA4 3).trans rfl
          have f0 := free_of hA4 0
          have f1 := free_of hA4 1
          have f2 := free_of hA4 2
          have f3 := free_of hA4 3
          refine wpAnyH_ready (rs := [6]) (by kernel_rfl) (by simp) (consH rfl (fun K hK => ?_) AllReadyH.nil)
          go_simp
          have hst := store_scrT hA4 rfl hbw4 hxbl (.slice p1 S.tops.length e1) (.slice p2 S.thrs.length e2) (.slice p3 S.sch.length e3) (.int .i64 S.most)
          have hg := set4_grown v4 xb (.slice p1 S.tops.length e1) (.slice p2 S.thrs.length e2) (.slice p3 S.sch.length e3) (.int .i64 S.most)
          have hx5 := hx4.head kindsC hA4 hg
          have ho5 := own_head ho4 hA4 hg (by decide)
          have hu5 := own_head hu4 hA4 hg (by decide)
          have hB5 := (hg.block ob (Array.getElem?_eq_some_iff.1 hB4).1 (by simpa using hne)).trans hB4
          have hA5 := hst.1
          have hbw5 := hst.2
          clear hst hg n0 n1 n2 n3 f0 f1 f2 f3
          clear hx4 ho4 hu4 hA4 hB4 hbw4
          generalize ((((v4.setCell ⟨xb, 0, none⟩ (.slice p1 S.tops.length e1)).setCell ⟨xb, 1, none⟩ (.slice p2 S.thrs.length e2)).setCell ⟨xb, 2, none⟩ (.slice p3 S.sch.length e3)).setCell ⟨xb, 3, none⟩ (.int .i64 S.most)) = v5 at *
          refine hK.out _ _ (HKC.out _ hbw5) (fun hHeld => ?_)
          clear hK K
          try simp only [Act.put, List.setIfInBounds_toArray, List.set_cons_zero, List.set_cons_succ]
          have n0 := (cell_of hB5 0).trans rfl
          have n1 := (cell_of hB5 1).trans rfl
          have n2 := (cell_of hB5 2).trans rfl
          have n3 := (cell_of hB5 3).trans rfl
          have f0 := free_of hB5 0
          have f1 := free_of hB5 1
          have f2 := free_of hB5 2
          have f3 := free_of hB5 3
          refine wpAnyH_ready (rs := [7]) (by kernel_rfl) (by simp) (consH rfl (fun K hK => ?_) AllReadyH.nil)
          go_simp
          have hst := store_scrT hB5 rfl hbw5 hobl (.slice q1 S.tops.length d1) (.slice q2 S.thrs.length d2) (.slice ps S.sch.length cs) (.int .i64 S.most)
          have hg := set4_grown v5 ob (.slice q1 S.tops.length d1) (.slice q2 S.thrs.length d2) (.slice ps S.sch.length cs) (.int .i64 S.most)
          have hx6 := hx5.head kindsO hB5 hg
          have ho6 := own_head ho5 hB5 hg (by decide)
          have hu6 := own_head hu5 hB5 hg (by decide)
          have hA6 := (hg.block xb (Array.getElem?_eq_some_iff.1 hA5).1 (by simpa using hne.symm)).trans hA5
          have hB6 := hst.1
          have hbw6 := hst.2
          clear hst hg n0 n1 n2 n3 f0 f1 f2 f3
          refine hK.out _ _ (HKC.out _ hbw6) (fun hHeld => ?_)
          clear hK K
          try simp only [Act.put, List.setIfInBounds_toArray, List.set_cons_zero, List.set_cons_succ]
          refine wpAnyH_done (by kernel_rfl) ?_ _
          go_wp2_with fail
          go_meet
          exact ⟨xb, ob, p1, e1, p2, e2, p3, e3, XV, q1, d1, q2, d2, rfl, rfl, hA6, hB6, hx6, ho6, hu6, hbw6⟩
        · go_simp
          have hA3 := heap_alloc_new v2 (.cells #[.slice none 0 0, .slice none 0 0, .slice none 0 0, .int .i64 0] 27)
          have hb' := (Below.refl v2.heap.size v2).alloc (Nat.le_refl _) (.cells #[.slice none 0 0, .slice none 0 0, .slice none 0 0, .int .i64 0] 27)
          obtain ⟨xb, hxb⟩ : ∃ q, q = v2.heap.size := ⟨_, rfl⟩
          have hxbl : rb + 1 ≤ xb := by have := hbw2.size; have := HSZ.out; omega
          rw [← hxb] at hA3 ⊢
          clear hxb
          generalize v2.alloc (.cells #[.slice none 0 0, .slice none 0 0, .slice none 0 0, .int .i64 0] 27) = v3 at *
          have hbw3 := HWN.out _ _ hbw2 hb'
          have hx3 := hx2.below hb'
          have hB3 := (hb'.block ob (Array.getElem?_eq_some_iff.1 hB2).1).trans hB2
          refine hK.out _ _ (HKC.out _ hbw3) (fun hHeld => ?_)
          clear hK K hb' hbw2 hx2 hB2
          try simp only [Act.put, List.setIfInBounds_toArray, List.set_cons_zero, List.set_cons_succ]
          refine wpAnyH_ready (rs := [3]) (by kernel_rfl) (by simp) (consH rfl (fun K hK => ?_) AllReadyH.nil)
          go_simp
          go_at_call 14
          refine (HOW.out _ hbw3).mono ?_
          rintro e v4 ⟨yt, yh, rfl, hy1, hy2, hb'⟩
          obtain ⟨q1, d1, rfl⟩ := own_slice hy1
          obtain ⟨q2, d2, rfl⟩ := own_slice hy2
          have hyb : rb + 1 ≤ v3.heap.size := by have := hbw3.size; have := HSZ.out; omega
          have ho4 := own_base hy1 hyb
          have hu4 := own_base hy2 hyb
          clear hy1 hy2 hyb
          have hbw4 := HWN.out _ _ hbw3 hb'
          have hx4 := hx3.below hb'
          have hA4 := (hb'.block xb (Array.getElem?_eq_some_iff.1 hA3).1).trans hA3
          have hB4 := (hb'.block ob (Array.getElem?_eq_some_iff.1 hB3).1).trans hB3
          refine hK.out _ _ (HKC.out _ hbw4) (fun hHeld => ?_)
          clear hK K hb' hbw3 hx3 hA3 hB3
          try simp only [Act.put, List.setIfInBounds_toArray, List.set_cons_zero, List.set_cons_succ]
          have hne : ob ≠ xb := by intro e; subst e; rw [hA4] at hB4; cases hB4
          have n0 := (cell_of hA4 0).trans rfl
          have n1 := (cell_of hA4 1).trans rfl
          have n2 := (cell_of hA4 2).trans rfl
          have n3 := (cell_of hA4 3).trans rfl
          have f0 := free_of hA4 0
          have f1 := free_of hA4 1
          have f2 := free_of hA4 2
          have f3 := free_of hA4 3
          refine wpAnyH_ready (rs := [6]) (by kernel_rfl) (by simp) (consH rfl (fun K hK => ?_) AllReadyH.nil)
          go_simp
          have hst := store_scrT hA4 rfl hbw4 hxbl (.slice p1 S.tops.length e1) (.slice p2 S.thrs.length e2) (.slice p3 S.sch.length e3) (.int .i64 S.most)
          have hg := set4_grown v4 xb (.slice p1 S.tops.length e1) (.slice p2 S.thrs.length e2) (.slice p3 S.sch.length e3) (.int .i64 S.most)
          have hx5 := hx4.head kindsC hA4 hg
          have ho5 := own_head ho4 hA4 hg (by decide)
          have hu5 := own_head hu4 hA4 hg (by decide)
          have hB5 := (hg.block ob (Array.getElem?_eq_some_iff.1 hB4).1 (by simpa using hne)).trans hB4
          have hA5 := hst.1
          have hbw5 := hst.2
          clear hst hg n0 n1 n2 n3 f0 f1 f2 f3
          clear hx4 ho4 hu4 hA4 hB4 hbw4
          generalize ((((v4.setCell ⟨xb, 0, none⟩ (.slice p1 S.tops.length e1)).setCell ⟨xb, 1, none⟩ (.slice p2 S.thrs.length e2)).setCell ⟨xb, 2, none⟩ (.slice p3 S.sch.length e3)).setCell ⟨xb, 3, none⟩ (.int .i64 S.most)) = v5 at *
          refine hK.out _ _ (HKC.out _ hbw5) (fun hHeld => ?_)
          clear hK K
          try simp only [Act.put, List.setIfInBounds_toArray, List.set_cons_zero, List.set_cons_succ]
          have n0 := (cell_of hB5 0).trans rfl
          have n1 := (cell_of hB5 1).trans rfl
          have n2 := (cell_of hB5 2).trans rfl
          have n3 := (cell_of hB5 3).trans rfl
          have f0 := free_of hB5 0
          have f1 := free_of hB5 1
          have f2 := free_of hB5 2
          have f3 := free_of hB5 3
          refine wpAnyH_ready (rs := [7]) (by kernel_rfl) (by simp) (consH rfl (fun K hK => ?_) AllReadyH.nil)
          go_simp
          have hst := store_scrT hB5 rfl hbw5 hobl (.slice q1 S.tops.length d1) (.slice q2 S.thrs.length d2) (.slice ps S.sch.length cs) (.int .i64 S.most)
          have hg := set4_grown v5 ob (.slice q1 S.tops.length d1) (.slice q2 S.thrs.length d2) (.slice ps S.sch.length cs) (.int .i64 S.most)
          have hx6 := hx5.head kindsO hB5 hg
          have ho6 := own_head ho5 hB5 hg (by decide)
          have hu6 := own_head hu5 hB5 hg (by decide)
          have hA6 := (hg.block xb (Array.getElem?_eq_some_iff.1 hA5).1 (by simpa using hne.symm)).trans hA5
          have hB6 := hst.1
          have hbw6 := hst.2
          clear hst hg n0 n1 n2 n3 f0 f1 f2 f3
          refine hK.out _ _ (HKC.out _ hbw6) (fun hHeld => ?_)
          clear hK K
          try simp only [Act.put, List.setIfInBounds_toArray, List.set_cons_zero, List.set_cons_succ]
          refine wpAnyH_done (by kernel_rfl) ?_ _
          go_wp2_with fail
          go_meet
          exact ⟨xb, ob, p1, e1, p2, e2, p3, e3, XV, q1, d1, q2, d2, rfl, rfl, hA6, hB6, hx6, ho6, hu6, hbw6⟩
    · go_simp
      have hA1 := heap_alloc_new v0 (.cells #[.slice none 0 0, .slice none 0 0, .slice none 0 0, .int .i64 0] 27)
      have hb' := (Below.refl v0.heap.size v0).alloc (Nat.le_refl _) (.cells #[.slice none 0 0, .slice none 0 0, .slice none 0 0, .int .i64 0] 27)
      obtain ⟨xb, hxb⟩ : ∃ q, q = v0.heap.size := ⟨_, rfl⟩
      have hxbl : rb + 1 ≤ xb := by have := hbw0.size; have := HSZ.out; omega
      rw [← hxb] at hA1 ⊢
      clear hxb
      generalize v0.alloc (.cells #[.slice none 0 0, .slice none 0 0, .slice none 0 0, .int .i64 0] 27) = v1 at *
      have hbw1 := HWN.out _ _ hbw0 hb'
      refine hK.out _ _ (HKC.out _ hbw1) (fun hHeld => ?_)
      clear hK K hb' hbw0
      try simp only [Act.put, List.setIfInBounds_toArray, List.set_cons_zero, List.set_cons_succ]
      refine wpAnyH_ready (rs := [1, 5]) (by kernel_rfl) (by simp) (consH rfl (fun K hK => ?_) (consH rfl (fun K hK => ?_) AllReadyH.nil))
      · go_simp
        go_at_call 16
        refine (HCP.out _ hbw1).mono ?_
        rintro e v2 ⟨xt, xh, xs, XV, rfl, hrw, hb'⟩
        obtain ⟨p1, e1, rfl⟩ := own_slice hrw.tops
        obtain ⟨p2, e2, rfl⟩ := own_slice hrw.thrs
        obtain ⟨p3, e3, rfl⟩ := own_slice hrw.sch
        have hx2 := hrw.base (show rb + 1 ≤ v1.heap.size by have := hbw1.size; have := HSZ.out; omega)
        clear hrw
        have hbw2 := HWN.out _ _ hbw1 hb'
        have hA2 := (hb'.block xb (Array.getElem?_eq_some_iff.1 hA1).1).trans hA1
        refine hK.out _ _ (HKC.out _ hbw2) (fun hHeld => ?_)
        clear hK K hb' hbw1 hA1
        try simp only [Act.put, List.setIfInBounds_toArray, List.set_cons_zero, List.set_cons_succ]
        refine wpAnyH_ready (rs := [3, 5]) (by kernel_rfl) (by simp) (consH rfl (fun K hK => ?_) (consH rfl (fun K hK => ?_) AllReadyH.nil))
        · go_simp
          go_at_call 14
          refine (HOW.out _ hbw2).mono ?_
          rintro e v3 ⟨yt, yh, rfl, hy1, hy2, hb'⟩
          obtain ⟨q1, d1, rfl⟩ := own_slice hy1
          obtain ⟨q2, d2, rfl⟩ := own_slice hy2
          have hyb : rb + 1 ≤ v2.heap.size := by have := hbw2.size; have := HSZ.out; omega
          have ho3 := own_base hy1 hyb
          have hu3 := own_base hy2 hyb
          clear hy1 hy2 hyb
          have hbw3 := HWN.out _ _ hbw2 hb'
          have hx3 := hx2.below hb'
          have hA3 := (hb'.block xb (Array.getElem?_eq_some_iff.1 hA2).1).trans hA2
          refine hK.out _ _ (HKC.out _ hbw3) (fun hHeld => ?_)
          clear hK K hb' hbw2 hx2 hA2
          try simp only [Act.put, List.setIfInBounds_toArray, List.set_cons_zero, List.set_cons_succ]
          refine wpAnyH_ready (rs := [5]) (by kernel_rfl) (by simp) (consH rfl (fun K hK => ?_) AllReadyH.nil)
          go_simp
          have hB4 := heap_alloc_new v3 (.cells #[.slice none 0 0, .slice none 0 0, .slice none 0 0, .int .i64 0] 34)
          have hb' := (Below.refl v3.heap.size v3).alloc (Nat.le_refl _) (.cells #[.slice none 0 0, .slice none 0 0, .slice none 0 0, .int .i64 0] 34)
          obtain ⟨ob, hob⟩ : ∃ q, q = v3.heap.size := ⟨_, rfl⟩
          have hobl : rb + 1 ≤ ob := by have := hbw3.size; have := HSZ.out; omega
          rw [← hob] at hB4 ⊢
          clear hob
          generalize v3.alloc (.cells #[.slice none 0 0, .slice none 0 0, .slice none 0 0, .int .i64 0] 34) = v4 at *
          have hbw4 := HWN.out _ _ hbw3 hb'
          have hx4 := hx3.below hb'
          have ho4 := own_below ho3 hb'
          have hu4 := own_below hu3 hb'
          have hA4 := (hb'.block xb (Array.getElem?_eq_some_iff.1 hA3).1).trans hA3
          refine hK.out _ _ (HKC.out _ hbw4) (fun hHeld => ?_)
          clear hK K hb' hbw3 hx3 ho3 hu3 hA3
          try simp only [Act.put, List.setIfInBounds_toArray, List.set_cons_zero, List.set_cons_succ]
          have hne : ob ≠ xb := by intro e; subst e; rw [hA4] at hB4; cases hB4
          have n0 := (cell_of hA4 0).trans rfl
          have n1 := (cell_of hA4 1).trans rfl
          have n2 := (cell_of hA4 2).trans rfl
          have n3 := (cell_of hA4 3).trans rfl
          have f0 := free_of hA4 0
          have f1 := free_of hA4 1
          have f2 := free_of hA4 2
          have f3 := free_of hA4 3
          refine wpAnyH_ready (rs := [6]) (by kernel_rfl) (by simp) (consH rfl (fun K hK => ?_) AllReadyH.nil)
          go_simp
          have hst := store_scrT hA4 rfl hbw4 hxbl (.slice p1 S.tops.length e1) (.slice p2 S.thrs.length e2) (.slice p3 S.sch.length e3) (.int .i64 S.most)
          have hg := set4_grown v4 xb (.slice p1 S.tops.length e1) (.slice p2 S.thrs.length e2) (.slice p3 S.sch.length e3) (.int .i64 S.most)
          have hx5 := hx4.head kindsC hA4 hg
          have ho5 := own_head ho4 hA4 hg (by decide)
          have hu5 := own_head hu4 hA4 hg (by decide)
          have hB5 := (hg.block ob (Array.getElem?_eq_some_iff.1 hB4).1 (by simpa using hne)).trans hB4
          have hA5 := hst.1
          have hbw5 := hst.2
          clear hst hg n0 n1 n2 n3 f0 f1 f2 f3
          clear hx4 ho4 hu4 hA4 hB4 hbw4
          generalize ((((v4.setCell ⟨xb, 0, none⟩ (.slice p1 S.tops.length e1)).setCell ⟨xb, 1, none⟩ (.slice p2 S.thrs.length e2)).setCell ⟨xb, 2, none⟩ (.slice p3 S.sch.length e3)).setCell ⟨xb, 3, none⟩ (.int .i64 S.most)) = v5 at *
          refine hK.out _ _ (HKC.out _ hbw5) (fun hHeld => ?_)
          clear hK K
          try simp only [Act.put, List.setIfInBounds_toArray, List.set_cons_zero, List.set_cons_succ]
          have n0 := (cell_of hB5 0).trans rfl
          have n1 := (cell_of hB5 1).trans rfl
          have n2 := (cell_of hB5 2).trans rfl
          have n3 := (cell_of hB5 3).trans rfl
          have f0 := free_of hB5 0
          have f1 := free_of hB5 1
          have f2 := free_of hB5 2
          have f3 := free_of hB5 3
          refine wpAnyH_ready (rs := [7]) (by kernel_rfl) (by simp) (consH rfl (fun K hK => ?_) AllReadyH.nil)
          go_simp
          have hst := store_scrT hB5 rfl hbw5 hobl (.slice q1 S.tops.length d1) (.slice q2 S.thrs.length d2) (.slice ps S.sch.length cs) (.int .i64 S.most)
          have hg := set4_grown v5 ob (.slice q1 S.tops.length d1) (.slice q2 S.thrs.length d2) (.slice ps S.sch.length cs) (.int .i64 S.most)
          have hx6 := hx5.head kindsO hB5 hg
          have ho6 := own_head ho5 hB5 hg (by decide)
          have hu6 := own_head hu5 hB5 hg (by decide)
          have hA6 := (hg.block xb (Array.getElem?_eq_some_iff.1 hA5).1 (by simpa using hne.symm)).trans hA5
          have hB6 := hst.1
          have hbw6 := hst.2
          clear hst hg n0 n1 n2 n3 f0 f1 f2 f3
          refine hK.out _ _ (HKC.out _ hbw6) (fun hHeld => ?_)
          clear hK K
          try simp only [Act.put, List.setIfInBounds_toArray, List.set_cons_zero, List.set_cons_succ]
          refine wpAnyH_done (by kernel_rfl) ?_ _
          go_wp2_with fail
          go_meet
          exact ⟨xb, ob, p1, e1, p2, e2, p3, e3, XV, q1, d1, q2, d2, rfl, rfl, hA6, hB6, hx6, ho6, hu6, hbw6⟩
        · go_simp
          have hB3 := heap_alloc_new v2 (.cells #[.slice none 0 0, .slice none 0 0, .slice none 0 0, .int .i64 0] 34)
          have hb' := (Below.refl v2.heap.size v2).alloc (Nat.le_refl _) (.cells #[.slice none 0 0, .slice none 0 0, .slice none 0 0, .int .i64 0] 34)
          obtain ⟨ob, hob⟩ : ∃ q, q = v2.heap.size := ⟨_, rfl⟩
          have hobl : rb + 1 ≤ ob := by have := hbw2.size; have := HSZ.out; omega
          rw [← hob] at hB3 ⊢
          clear hob
          generalize v2.alloc (.cells #[.slice none 0 0, .slice none 0 0, .slice none 0 0, .int .i64 0] 34) = v3 at *
          have hbw3 := HWN.out _ _ hbw2 hb'
          have hx3 := hx2.below hb'
          have hA3 := (hb'.block xb (Array.getElem?_eq_some_iff.1 hA2).1).trans hA2
          refine hK.out _ _ (HKC.out _ hbw3) (fun hHeld => ?_)
          clear hK K hb' hbw2 hx2 hA2
          try simp only [Act.put, List.setIfInBounds_toArray, List.set_cons_zero, List.set_cons_succ]
          refine wpAnyH_ready (rs := [3]) (by kernel_rfl) (by simp) (consH rfl (fun K hK => ?_) AllReadyH.nil)
          go_simp
          go_at_call 14
          refine (HOW.out _ hbw3).mono ?_
          rintro e v4 ⟨yt, yh, rfl, hy1, hy2, hb'⟩
          obtain ⟨q1, d1, rfl⟩ := own_slice hy1
          obtain ⟨q2, d2, rfl⟩ := own_slice hy2
          have hyb : rb + 1 ≤ v3.heap.size := by have := hbw3.size; have := HSZ.out; omega
          have ho4 := own_base hy1 hyb
          have hu4 := own_base hy2 hyb
          clear hy1 hy2 hyb
          have hbw4 := HWN.out _ _ hbw3 hb'
          have hx4 := hx3.below hb'
          have hA4 := (hb'.block xb (Array.getElem?_eq_some_iff.1 hA3).1).trans hA3
          have hB4 := (hb'.block ob (Array.getElem?_eq_some_iff.1 hB3).1).trans hB3
          refine hK.out _ _ (HKC.out _ hbw4) (fun hHeld => ?_)
          clear hK K hb' hbw3 hx3 hA3 hB3
          try simp only [Act.put, List.setIfInBounds_toArray, List.set_cons_zero, List.set_cons_succ]
          have hne : ob ≠ xb := by intro e; subst e; rw [hA4] at hB4; cases hB4
          have n0 := (cell_of hA4 0).trans rfl
          have n1 := (cell_of hA4 1).trans rfl
          have n2 := (cell_of hA4 2).trans rfl
          have n3 := (cell_of hA4 3).trans rfl
          have f0 := free_of hA4 0
          have f1 := free_of hA4 1
          have f2 := free_of hA4 2
          have f3 := free_of hA4 3
          refine wpAnyH_ready (rs := [6]) (by kernel_rfl) (by simp) (consH rfl (fun K hK => ?_) AllReadyH.nil)
          go_simp
          have hst := store_scrT hA4 rfl hbw4 hxbl (.slice p1 S.tops.length e1) (.slice p2 S.thrs.length e2) (.slice p3 S.sch.length e3) (.int .i64 S.most)
          have hg := set4_grown v4 xb (.slice p1 S.tops.length e1) (.slice p2 S.thrs.length e2) (.slice p3 S.sch.length e3) (.int .i64 S.most)
          have hx5 := hx4.head kindsC hA4 hg
          have ho5 := own_head ho4 hA4 hg (by decide)
          have hu5 := own_head hu4 hA4 hg (by decide)
          have hB5 := (hg.block ob (Array.getElem?_eq_some_iff.1 hB4).1 (by simpa using hne)).trans hB4
          have hA5 := hst.1
          have hbw5 := hst.2
          clear hst hg n0 n1 n2 n3 f0 f1 f2 f3
          clear hx4 ho4 hu4 hA4 hB4 hbw4
          generalize ((((v4.setCell ⟨xb, 0, none⟩ (.slice p1 S.tops.length e1)).setCell ⟨xb, 1, none⟩ (.slice p2 S.thrs.length e2)).setCell ⟨xb, 2, none⟩ (.slice p3 S.sch.length e3)).setCell ⟨xb, 3, none⟩ (.int .i64 S.most)) = v5 at *
          refine hK.out _ _ (HKC.out _ hbw5) (fun hHeld => ?_)
          clear hK K
          try simp only [Act.put, List.setIfInBounds_toArray, List.set_cons_zero, List.set_cons_succ]
          have n0 := (cell_of hB5 0).trans rfl
          have n1 := (cell_of hB5 1).trans rfl
          have n2 := (cell_of hB5 2).trans rfl
          have n3 := (cell_of hB5 3).trans rfl
          have f0 := free_of hB5 0
          have f1 := free_of hB5 1
          have f2 := free_of hB5 2
          have f3 := free_of hB5 3
          refine wpAnyH_ready (rs := [7]) (by kernel_rfl) (by simp) (consH rfl (fun K hK => ?_) AllReadyH.nil)
          go_simp
          have hst := store_scrT hB5 rfl hbw5 hobl (.slice q1 S.tops.length d1) (.slice q2 S.thrs.length d2) (.slice ps S.sch.length cs) (.int .i64 S.most)
          have hg := set4_grown v5 ob (.slice q1 S.tops.length d1) (.slice q2 S.thrs.length d2) (.slice ps S.sch.length cs) (.int .i64 S.most)
          have hx6 := hx5.head kindsO hB5 hg
          have ho6 := own_head ho5 hB5 hg (by decide)
          have hu6 := own_head hu5 hB5 hg (by decide)
          have hA6 := (hg.block xb (Array.getElem?_eq_some_iff.1 hA5).1 (by simpa using hne.symm)).trans hA5
          have hB6 := hst.1
          have hbw6 := hst.2
          clear hst hg n0 n1 n2 n3 f0 f1 f2 f3
          refine hK.out _ _ (HKC.out _ hbw6) (fun hHeld => ?_)
          clear hK K
          try simp only [Act.put, List.setIfInBounds_toArray, List.set_cons_zero, List.set_cons_succ]
          refine wpAnyH_done (by kernel_rfl) ?_ _
          go_wp2_with fail
          go_meet
          exact ⟨xb, ob, p1, e1, p2, e2, p3, e3, XV, q1, d1, q2, d2, rfl, rfl, hA6, hB6, hx6, ho6, hu6, hbw6⟩
      · go_simp
        have hB2 := heap_alloc_new v1 (.cells #[.slice none 0 0, .slice none 0 0, .slice none 0 0, .int .i64 0] 34)
        have hb' := (Below.refl v1.heap.size v1).alloc (Nat.le_refl _) (.cells #[.slice none 0 0, .slice none 0 0, .slice none 0 0, .int .i64 0] 34)
        obtain ⟨ob, hob⟩ : ∃ q, q = v1.heap.size := ⟨_, rfl⟩
        have hobl : rb + 1 ≤ ob := by have := hbw1.size; have := HSZ.out; omega
        rw [← hob] at hB2 ⊢
        clear hob
        generalize v1.alloc (.cells #[.slice none 0 0, .slice none 0 0, .slice none 0 0, .int .i64 0] 34) = v2 at *
        have hbw2 := HWN.out _ _ hbw1 hb'
        have hA2 := (hb'.block xb (Array.getElem?_eq_some_iff.1 hA1).1).trans hA1
        refine hK.out _ _ (HKC.out _ hbw2) (fun hHeld => ?_)
        clear hK K hb' hbw1 hA1
        try simp only [Act.put, List.setIfInBounds_toArray, List.set_cons_zero, List.set_cons_succ]
        refine wpAnyH_ready (rs := [1]) (by kernel_rfl) (by simp) (consH rfl (fun K hK => ?_) AllReadyH.nil)
        go_simp
        go_at_call 16
        refine (HCP.out _ hbw2).mono ?_
        rintro e v3 ⟨xt, xh, xs, XV, rfl, hrw, hb'⟩
        obtain ⟨p1, e1, rfl⟩ := own_slice hrw.tops
        obtain ⟨p2, e2, rfl⟩ := own_slice hrw.thrs
        obtain ⟨p3, e3, rfl⟩ := own_slice hrw.sch
        have hx3 := hrw.base (show rb + 1 ≤ v2.heap.size by have := hbw2.size; have := HSZ.out; omega)
        clear hrw
        have hbw3 := HWN.out _ _ hbw2 hb'
        have hA3 := (hb'.block xb (Array.getElem?_eq_some_iff.1 hA2).1).trans hA2
        have hB3 := (hb'.block ob (Array.getElem?_eq_some_iff.1 hB2).1).trans hB2
        refine hK.out _ _ (HKC.out _ hbw3) (fun hHeld => ?_)
        clear hK K hb' hbw2 hA2 hB2
        try simp only [Act.put, List.setIfInBounds_toArray, List.set_cons_zero, List.set_cons_succ]
        refine wpAnyH_ready (rs := [3]) (by kernel_rfl) (by simp) (consH rfl (fun K hK => ?_) AllReadyH.nil)
        go_simp
        go_at_call 14
        refine (HOW.out _ hbw3).mono ?_
        rintro e v4 ⟨yt, yh, rfl, hy1, hy2, hb'⟩
        obtain ⟨q1, d1, rfl⟩ := own_slice hy1
        obtain ⟨q2, d2, rfl⟩ := own_slice hy2
        have hyb : rb + 1 ≤ v3.heap.size := by have := hbw3.size; have := HSZ.out; omega
        have ho4 := own_base hy1 hyb
        have hu4 := own_base hy2 hyb
        clear hy1 hy2 hyb
        have hbw4 := HWN.out _ _ hbw3 hb'
        have hx4 := hx3.below hb'
        have hA4 := (hb'.block xb (Array.getElem?_eq_some_iff.1 hA3).1).trans hA3
        have hB4 := (hb'.block ob (Array.getElem?_eq_some_iff.1 hB3).1).trans hB3
        refine hK.out _ _ (HKC.out _ hbw4) (fun hHeld => ?_)
        clear hK K hb' hbw3 hx3 hA3 hB3
        try simp only [Act.put, List.setIfInBounds_toArray, List.set_cons_zero, List.set_cons_succ]
        have hne : ob ≠ xb := by intro e; subst e; rw [hA4] at hB4; cases hB4
        have n0 := (cell_of hA4 0).trans rfl
        have n1 := (cell_of hA4 1).trans rfl
        have n2 := (cell_of hA4 2).trans rfl
        have n3 := (cell_of hA4 3).trans rfl
        have f0 := free_of hA4 0
        have f1 := free_of hA4 1
        have f2 := free_of hA4 2
        have f3 := free_of hA4 3
        refine wpAnyH_ready (rs := [6]) (by kernel_rfl) (by simp) (consH rfl (fun K hK => ?_) AllReadyH.nil)
        go_simp
        have hst := store_scrT hA4 rfl hbw4 hxbl (.slice p1 S.tops.length e1) (.slice p2 S.thrs.length e2) (.slice p3 S.sch.length e3) (.int .i64 S.most)
        have hg := set4_grown v4 xb (.slice p1 S.tops.length e1) (.slice p2 S.thrs.length e2) (.slice p3 S.sch.length e3) (.int .i64 S.most)
        have hx5 := hx4.head kindsC hA4 hg
        have ho5 := own_head ho4 hA4 hg (by decide)
        have hu5 := own_head hu4 hA4 hg (by decide)
        have hB5 := (hg.block ob (Array.getElem?_eq_some_iff.1 hB4).1 (by simpa using hne)).trans hB4
        have hA5 := hst.1
        have hbw5 := hst.2
        clear hst hg n0 n1 n2 n3 f0 f1 f2 f3
        clear hx4 ho4 hu4 hA4 hB4 hbw4
        generalize ((((v4.setCell ⟨xb, 0, none⟩ (.slice p1 S.tops.length e1)).setCell ⟨xb, 1, none⟩ (.slice p2 S.thrs.length e2)).setCell ⟨xb, 2, none⟩ (.slice p3 S.sch.length e3)).setCell ⟨xb, 3, none⟩ (.int .i64 S.most)) = v5 at *
        refine hK.out _ _ (HKC.out _ hbw5) (fun hHeld => ?_)
        clear hK K
        try simp only [Act.put, List.setIfInBounds_toArray, List.set_cons_zero, List.set_cons_succ]
        have n0 := (cell_of hB5 0).trans rfl
        have n1 := (cell_of hB5 1).trans rfl
        have n2 := (cell_of hB5 2).trans rfl
        have n3 := (cell_of hB5 3).trans rfl
        have f0 := free_of hB5 0
        have f1 := free_of hB5 1
        have f2 := free_of hB5 2
        have f3 := free_of hB5 3
        refine wpAnyH_ready (rs := [7]) (by kernel_rfl) (by simp) (consH rfl (fun K hK => ?_) AllReadyH.nil)
        go_simp
        have hst := store_scrT hB5 rfl hbw5 hobl (.slice q1 S.tops.length d1) (.slice q2 S.thrs.length d2) (.slice ps S.sch.length cs) (.int .i64 S.most)
        have hg := set4_grown v5 ob (.slice q1 S.tops.length d1) (.slice q2 S.thrs.length d2) (.slice ps S.sch.length cs) (.int .i64 S.most)
        have hx6 := hx5.head kindsO hB5 hg
        have ho6 := own_head ho5 hB5 hg (by decide)
        have hu6 := own_head hu5 hB5 hg (by decide)
        have hA6 := (hg.block xb (Array.getElem?_eq_some_iff.1 hA5).1 (by simpa using hne.symm)).trans hA5
        have hB6 := hst.1
        have hbw6 := hst.2
        clear hst hg n0 n1 n2 n3 f0 f1 f2 f3
        refine hK.out _ _ (HKC.out _ hbw6) (fun hHeld => ?_)
        clear hK K
        try simp only [Act.put, List.setIfInBounds_toArray, List.set_cons_zero, List.set_cons_succ]
        refine wpAnyH_done (by kernel_rfl) ?_ _
        go_wp2_with fail
        go_meet
        exact ⟨xb, ob, p1, e1, p2, e2, p3, e3, XV, q1, d1, q2, d2, rfl, rfl, hA6, hB6, hx6, ho6, hu6, hbw6⟩
    · go_simp
      have hB1 := heap_alloc_new v0 (.cells #[.slice none 0 0, .slice none 0 0, .slice none 0 0, .int .i64 0] 34)
      have hb' := (Below.refl v0.heap.size v0).alloc (Nat.le_refl _) (.cells #[.slice none 0 0, .slice none 0 0, .slice none 0 0, .int .i64 0] 34)
      obtain ⟨ob, hob⟩ : ∃ q, q = v0.heap.size := ⟨_, rfl⟩
      have hobl : rb + 1 ≤ ob := by have := hbw0.size; have := HSZ.out; omega
      rw [← hob] at hB1 ⊢
      clear hob
      generalize v0.alloc (.cells #[.slice none 0 0, .slice none 0 0, .slice none 0 0, .int .i64 0] 34) = v1 at *
      have hbw1 := HWN.out _ _ hbw0 hb'
      refine hK.out _ _ (HKC.out _ hbw1) (fun hHeld => ?_)
      clear hK K hb' hbw0
      try simp only [Act.put, List.setIfInBounds_toArray, List.set_cons_zero, List.set_cons_succ]
      refine wpAnyH_ready (rs := [1, 4]) (by kernel_rfl) (by simp) (consH rfl (fun K hK => ?_) (consH rfl (fun K hK => ?_) AllReadyH.nil))
      · go_simp
        go_at_call 16
        refine (HCP.out _ hbw1).mono ?_
        rintro e v2 ⟨xt, xh, xs, XV, rfl, hrw, hb'⟩
        obtain ⟨p1, e1, rfl⟩ := own_slice hrw.tops
        obtain ⟨p2, e2, rfl⟩ := own_slice hrw.thrs
        obtain ⟨p3, e3, rfl⟩ := own_slice hrw.sch
        have hx2 := hrw.base (show rb + 1 ≤ v1.heap.size by have := hbw1.size; have := HSZ.out; omega)
        clear hrw
        have hbw2 := HWN.out _ _ hbw1 hb'
        have hB2 := (hb'.block ob (Array.getElem?_eq_some_iff.1 hB1).1).trans hB1
        refine hK.out _ _ (HKC.out _ hbw2) (fun hHeld => ?_)
        clear hK K hb' hbw1 hB1
        try simp only [Act.put, List.setIfInBounds_toArray, List.set_cons_zero, List.set_cons_succ]
        refine wpAnyH_ready (rs := [3, 4]) (by kernel_rfl) (by simp) (consH rfl (fun K hK => ?_) (consH rfl (fun K hK => ?_) AllReadyH.nil))
        · go_simp
          go_at_call 14
          refine (HOW.out _ hbw2).mono ?_
          rintro e v3 ⟨yt, yh, rfl, hy1, hy2, hb'⟩
          obtain ⟨q1, d1, rfl⟩ := own_slice hy1
          obtain ⟨q2, d2, rfl⟩ := own_slice hy2
          have hyb : rb + 1 ≤ v2.heap.size := by have := hbw2.size; have := HSZ.out; omega
          have ho3 := own_base hy1 hyb
          have hu3 := own_base hy2 hyb
          clear hy1 hy2 hyb
          have hbw3 := HWN.out _ _ hbw2 hb'
          have hx3 := hx2.below hb'
          have hB3 := (hb'.block ob (Array.getElem?_eq_some_iff.1 hB2).1).trans hB2
          refine hK.out _ _ (HKC.out _ hbw3) (fun hHeld => ?_)
          clear hK K hb' hbw2 hx2 hB2
          try simp only [Act.put, List.setIfInBounds_toArray, List.set_cons_zero, List.set_cons_succ]
          refine wpAnyH_ready (rs := [4]) (by kernel_rfl) (by simp) (consH rfl (fun K hK => ?_) AllReadyH.nil)
          go_simp
          have hA4 := heap_alloc_new v3 (.cells #[.slice none 0 0, .slice none 0 0, .slice none 0 0, .int .i64 0] 27)
          have hb' := (Below.refl v3.heap.size v3).alloc (Nat.le_refl _) (.cells #[.slice none 0 0, .slice none 0 0, .slice none 0 0, .int .i64 0] 27)
          obtain ⟨xb, hxb⟩ : ∃ q, q = v3.heap.size := ⟨_, rfl⟩
          have hxbl : rb + 1 ≤ xb := by have := hbw3.size; have := HSZ.out; omega
          rw [← hxb] at hA4 ⊢
          clear hxb
          generalize v3.alloc (.cells #[.slice none 0 0, .slice none 0 0, .slice none 0 0, .int .i64 0] 27) = v4 at *
          have hbw4 := HWN.out _ _ hbw3 hb'
          have hx4 := hx3.below hb'
          have ho4 := own_below ho3 hb'
          have hu4 := own_below hu3 hb'
          have hB4 := (hb'.block ob (Array.getElem?_eq_some_iff.1 hB3).1).trans hB3
          refine hK.out _ _ (HKC.out _ hbw4) (fun hHeld => ?_)
          clear hK K hb' hbw3 hx3 ho3 hu3 hB3
          try simp only [Act.put, List.setIfInBounds_toArray, List.set_cons_zero, List.set_cons_succ]
          have hne : ob ≠ xb := by intro e; subst e; rw [hA4] at hB4; cases hB4
          have n0 := (cell_of hA4 0).trans rfl
          have n1 := (cell_of hA4 1).trans rfl
          have n2 := (cell_of hA4 2).trans rfl
          have n3 := (cell_of hA4 3).trans rfl
          have f0 := free_of hA4 0
          have f1 := free_of hA4 1
          have f2 := free_of hA4 2
          have f3 := free_of hA4 3
          refine wpAnyH_ready (rs := [6]) (by kernel_rfl) (by simp) (consH rfl (fun K hK => ?_) AllReadyH.nil)
          go_simp
          have hst := store_scrT hA4 rfl hbw4 hxbl (.slice p1 S.tops.length e1) (.slice p2 S.thrs.length e2) (.slice p3 S.sch.length e3) (.int .i64 S.most)
          have hg := set4_grown v4 xb (.slice p1 S.tops.length e1) (.slice p2 S.thrs.length e2) (.slice p3 S.sch.length e3) (.int .i64 S.most)
          have hx5 := hx4.head kindsC hA4 hg
          have ho5 := own_head ho4 hA4 hg (by decide)
          have hu5 := own_head hu4 hA4 hg (by decide)
          have hB5 := (hg.block ob (Array.getElem?_eq_some_iff.1 hB4).1 (by simpa using hne)).trans hB4
          have hA5 := hst.1
          have hbw5 := hst.2
          clear hst hg n0 n1 n2 n3 f0 f1 f2 f3
          clear hx4 ho4 hu4 hA4 hB4 hbw4
          generalize ((((v4.setCell ⟨xb, 0, none⟩ (.slice p1 S.tops.length e1)).setCell ⟨xb, 1, none⟩ (.slice p2 S.thrs.length e2)).setCell ⟨xb, 2, none⟩ (.slice p3 S.sch.length e3)).setCell ⟨xb, 3, none⟩ (.int .i64 S.most)) = v5 at *
          refine hK.out _ _ (HKC.out _ hbw5) (fun hHeld => ?_)
          clear hK K
          try simp only [Act.put, List.setIfInBounds_toArray, List.set_cons_zero, List.set_cons_succ]
          have n0 := (cell_of hB5 0).trans rfl
          have n1 := (cell_of hB5 1).trans rfl
          have n2 := (cell_of hB5 2).trans rfl
          have n3 := (cell_of hB5 3).trans rfl
          have f0 := free_of hB5 0
          have f1 := free_of hB5 1
          have f2 := free_of hB5 2
          have f3 := free_of hB5 3
          refine wpAnyH_ready (rs := [7]) (by kernel_rfl) (by simp) (consH rfl (fun K hK => ?_) AllReadyH.nil)
          go_simp
          have hst := store_scrT hB5 rfl hbw5 hobl (.slice q1 S.tops.length d1) (.slice q2 S.thrs.length d2) (.slice ps S.sch.length cs) (.int .i64 S.most)
          have hg := set4_grown v5 ob (.slice q1 S.tops.length d1) (.slice q2 S.thrs.length d2) (.slice ps S.sch.length cs) (.int .i64 S.most)
          have hx6 := hx5.head kindsO hB5 hg
          have ho6 := own_head ho5 hB5 hg (by decide)
          have hu6 := own_head hu5 hB5 hg (by decide)
          have hA6 := (hg.block xb (Array.getElem?_eq_some_iff.1 hA5).1 (by simpa using hne.symm)).trans hA5
          have hB6 := hst.1
          have hbw6 := hst.2
          clear hst hg n0 n1 n2 n3 f0 f1 f2 f3
          refine hK.out _ _ (HKC.out _ hbw6) (fun hHeld => ?_)
          clear hK K
          try simp only [Act.put, List.setIfInBounds_toArray, List.set_cons_zero, List.set_cons_succ]
          refine wpAnyH_done (by kernel_rfl) ?_ _
          go_wp2_with fail
          go_meet
          exact ⟨xb, ob, p1, e1, p2, e2, p3, e3, XV, q1, d1, q2, d2, rfl, rfl, hA6, hB6, hx6, ho6, hu6, hbw6⟩
        · go_simp
          have hA3 := heap_alloc_new v2 (.cells #[.slice none 0 0, .slice none 0 0, .slice none 0 0, .int .i64 0] 27)
          have hb' := (Below.refl v2.heap.size v2).alloc (Nat.le_refl _) (.cells #[.slice none 0 0, .slice none 0 0, .slice none 0 0, .int .i64 0] 27)
          obtain ⟨xb, hxb⟩ : ∃ q, q = v2.heap.size := ⟨_, rfl⟩
          have hxbl : rb + 1 ≤ xb := by have := hbw2.size; have := HSZ.out; omega
          rw [← hxb] at hA3 ⊢
          clear hxb
          generalize v2.alloc (.cells #[.slice none 0 0, .slice none 0 0, .slice none 0 0, .int .i64 0] 27) = v3 at *
          have hbw3 := HWN.out _ _ hbw2 hb'
          have hx3 := hx2.below hb'
          have hB3 := (hb'.block ob (Array.getElem?_eq_some_iff.1 hB2).1).trans hB2
          refine hK.out _ _ (HKC.out _ hbw3) (fun hHeld => ?_)
          clear hK K hb' hbw2 hx2 hB2
          try simp only [Act.put, List.setIfInBounds_toArray, List.set_cons_zero, List.set_cons_succ]
          refine wpAnyH_ready (rs := [3]) (by kernel_rfl) (by simp) (consH rfl (fun K hK => ?_) AllReadyH.nil)
          go_simp
          go_at_call 14
          refine (HOW.out _ hbw3).mono ?_
          rintro e v4 ⟨yt, yh, rfl, hy1, hy2, hb'⟩
          obtain ⟨q1, d1, rfl⟩ := own_slice hy1
          obtain ⟨q2, d2, rfl⟩ := own_slice hy2
          have hyb : rb + 1 ≤ v3.heap.size := by have := hbw3.size; have := HSZ.out; omega
          have ho4 := own_base hy1 hyb
          have hu4 := own_base hy2 hyb
          clear hy1 hy2 hyb
          have hbw4 := HWN.out _ _ hbw3 hb'
          have hx4 := hx3.below hb'
          have hA4 := (hb'.block xb (Array.getElem?_eq_some_iff.1 hA3).1).trans hA3
          have hB4 := (hb'.block ob (Array.getElem?_eq_some_iff.1 hB3).1).trans hB3
          refine hK.out _ _ (HKC.out _ hbw4) (fun hHeld => ?_)
          clear hK K hb' hbw3 hx3 hA3 hB3
          try simp only [Act.put, List.setIfInBounds_toArray, List.set_cons_zero, List.set_cons_succ]
          have hne : ob ≠ xb := by intro e; subst e; rw [hA4] at hB4; cases hB4
          have n0 := (cell_of hA4 0).trans rfl
          have n1 := (cell_of hA4 1).trans rfl
          have n2 := (cell_of hA4 2).trans rfl
          have n3 := (cell_of hA4 3).trans rfl
          have f0 := free_of hA4 0
          have f1 := free_of hA4 1
          have f2 := free_of hA4 2
          have f3 := free_of hA4 3
          refine wpAnyH_ready (rs := [6]) (by kernel_rfl) (by simp) (consH rfl (fun K hK => ?_) AllReadyH.nil)
          go_simp
          have hst := store_scrT hA4 rfl hbw4 hxbl (.slice p1 S.tops.length e1) (.slice p2 S.thrs.length e2) (.slice p3 S.sch.length e3) (.int .i64 S.most)
          have hg := set4_grown v4 xb (.slice p1 S.tops.length e1) (.slice p2 S.thrs.length e2) (.slice p3 S.sch.length e3) (.int .i64 S.most)
          have hx5 := hx4.head kindsC hA4 hg
          have ho5 := own_head ho4 hA4 hg (by decide)
          have hu5 := own_head hu4 hA4 hg (by decide)
          have hB5 := (hg.block ob (Array.getElem?_eq_some_iff.1 hB4).1 (by simpa using hne)).trans hB4
          have hA5 := hst.1
          have hbw5 := hst.2
          clear hst hg n0 n1 n2 n3 f0 f1 f2 f3
          clear hx4 ho4 hu4 hA4 hB4 hbw4
          generalize ((((v4.setCell ⟨xb, 0, none⟩ (.slice p1 S.tops.length e1)).setCell ⟨xb, 1, none⟩ (.slice p2 S.thrs.length e2)).setCell ⟨xb, 2, none⟩ (.slice p3 S.sch.length e3)).setCell ⟨xb, 3, none⟩ (.int .i64 S.most)) = v5 at *
          refine hK.out _ _ (HKC.out _ hbw5) (fun hHeld => ?_)
          clear hK K
          try simp only [Act.put, List.setIfInBounds_toArray, List.set_cons_zero, List.set_cons_succ]
          have n0 := (cell_of hB5 0).trans rfl
          have n1 := (cell_of hB5 1).trans rfl
          have n2 := (cell_of hB5 2).trans rfl
          have n3 := (cell_of hB5 3).trans rfl
          have f0 := free_of hB5 0
          have f1 := free_of hB5 1
          have f2 := free_of hB5 2
          have f3 := free_of hB5 3
          refine wpAnyH_ready (rs := [7]) (by kernel_rfl) (by simp) (consH rfl (fun K hK => ?_) AllReadyH.nil)
          go_simp
          have hst := store_scrT hB5 rfl hbw5 hobl (.slice q1 S.tops.length d1) (.slice q2 S.thrs.length d2) (.slice ps S.sch.length cs) (.int .i64 S.most)
          have hg := set4_grown v5 ob (.slice q1 S.tops.length d1) (.slice q2 S.thrs.length d2) (.slice ps S.sch.length cs) (.int .i64 S.most)
          have hx6 := hx5.head kindsO hB5 hg
          have ho6 := own_head ho5 hB5 hg (by decide)
          have hu6 := own_head hu5 hB5 hg (by decide)
          have hA6 := (hg.block xb (Array.getElem?_eq_some_iff.1 hA5).1 (by simpa using hne.symm)).trans hA5
          have hB6 := hst.1
          have hbw6 := hst.2
          clear hst hg n0 n1 n2 n3 f0 f1 f2 f3
          refine hK.out _ _ (HKC.out _ hbw6) (fun hHeld => ?_)
          clear hK K
          try simp only [Act.put, List.setIfInBounds_toArray, List.set_cons_zero, List.set_cons_succ]
          refine wpAnyH_done (by kernel_rfl) ?_ _
          go_wp2_with fail
          go_meet
          exact ⟨xb, ob, p1, e1, p2, e2, p3, e3, XV, q1, d1, q2, d2, rfl, rfl, hA6, hB6, hx6, ho6, hu6, hbw6⟩
      · go_simp
        have hA2 := heap_alloc_new v1 (.cells #[.slice none 0 0, .slice none 0 0, .slice none 0 0, .int .i64 0] 27)
        have hb' := (Below.refl v1.heap.size v1).alloc (Nat.le_refl _) (.cells #[.slice none 0 0, .slice none 0 0, .slice none 0 0, .int .i64 0] 27)
        obtain ⟨xb, hxb⟩ : ∃ q, q = v1.heap.size := ⟨_, rfl⟩
        have hxbl : rb + 1 ≤ xb := by have := hbw1.size; have := HSZ.out; omega
        rw [← hxb] at hA2 ⊢
        clear hxb
        generalize v1.alloc (.cells #[.slice none 0 0, .slice none 0 0, .slice none 0 0, .int .i64 0] 27) = v2 at *
        have hbw2 := HWN.out _ _ hbw1 hb'
        have hB2 := (hb'.block ob (Array.getElem?_eq_some_iff.1 hB1).1).trans hB1
        refine hK.out _ _ (HKC.out _ hbw2) (fun hHeld => ?_)
        clear hK K hb' hbw1 hB1
        try simp only [Act.put, List.setIfInBounds_toArray, List.set_cons_zero, List.set_cons_succ]
        refine wpAnyH_ready (rs := [1]) (by kernel_rfl) (by simp) (consH rfl (fun K hK => ?_) AllReadyH.nil)
        go_simp
        go_at_call 16
        refine (HCP.out _ hbw2).mono ?_
        rintro e v3 ⟨xt, xh, xs, XV, rfl, hrw, hb'⟩
        obtain ⟨p1, e1, rfl⟩ := own_slice hrw.tops
        obtain ⟨p2, e2, rfl⟩ := own_slice hrw.thrs
        obtain ⟨p3, e3, rfl⟩ := own_slice hrw.sch
        have hx3 := hrw.base (show rb + 1 ≤ v2.heap.size by have := hbw2.size; have := HSZ.out; omega)
        clear hrw
        have hbw3 := HWN.out _ _ hbw2 hb'
        have hA3 := (hb'.block xb (Array.getElem?_eq_some_iff.1 hA2).1).trans hA2
        have hB3 := (hb'.block ob (Array.getElem?_eq_some_iff.1 hB2).1).trans hB2
        refine hK.out _ _ (HKC.out _ hbw3) (fun hHeld => ?_)
        clear hK K hb' hbw2 hA2 hB2
        try simp only [Act.put, List.setIfInBounds_toArray, List.set_cons_zero, List.set_cons_succ]
        refine wpAnyH_ready (rs := [3]) (by kernel_rfl) (by simp) (consH rfl (fun K hK => ?_) AllReadyH.nil)
        go_simp
        go_at_call 14
        refine (HOW.out _ hbw3).mono ?_
        rintro e v4 ⟨yt, yh, rfl, hy1, hy2, hb'⟩
        obtain ⟨q1, d1, rfl⟩ := own_slice hy1
        obtain ⟨q2, d2, rfl⟩ := own_slice hy2
        have hyb : rb + 1 ≤ v3.heap.size := by have := hbw3.size; have := HSZ.out; omega
        have ho4 := own_base hy1 hyb
        have hu4 := own_base hy2 hyb
        clear hy1 hy2 hyb
        have hbw4 := HWN.out _ _ hbw3 hb'
        have hx4 := hx3.below hb'
        have hA4 := (hb'.block xb (Array.getElem?_eq_some_iff.1 hA3).1).trans hA3
        have hB4 := (hb'.block ob (Array.getElem?_eq_some_iff.1 hB3).1).trans hB3
        refine hK.out _ _ (HKC.out _ hbw4) (fun hHeld => ?_)
        clear hK K hb' hbw3 hx3 hA3 hB3
        try simp only [Act.put, List.setIfInBounds_toArray, List.set_cons_zero, List.set_cons_succ]
        have hne : ob ≠ xb := by intro e; subst e; rw [hA4] at hB4; cases hB4
        have n0 := (cell_of hA4 0).trans rfl
        have n1 := (cell_of hA4 1).trans rfl
        have n2 := (cell_of hA4 2).trans rfl
        have n3 := (cell_of hA4 3).trans rfl
        have f0 := free_of hA4 0
        have f1 := free_of hA4 1
        have f2 := free_of hA4 2
        have f3 := free_of hA4 3
        refine wpAnyH_ready (rs := [6]) (by kernel_rfl) (by simp) (consH rfl (fun K hK => ?_) AllReadyH.nil)
        go_simp
        have hst := store_scrT hA4 rfl hbw4 hxbl (.slice p1 S.tops.length e1) (.slice p2 S.thrs.length e2) (.slice p3 S.sch.length e3) (.int .i64 S.most)
        have hg := set4_grown v4 xb (.slice p1 S.tops.length e1) (.slice p2 S.thrs.length e2) (.slice p3 S.sch.length e3) (.int .i64 S.most)
        have hx5 := hx4.head kindsC hA4 hg
        have ho5 := own_head ho4 hA4 hg (by decide)
        have hu5 := own_head hu4 hA4 hg (by decide)
        have hB5 := (hg.block ob (Array.getElem?_eq_some_iff.1 hB4).1 (by simpa using hne)).trans hB4
        have hA5 := hst.1
        have hbw5 := hst.2
        clear hst hg n0 n1 n2 n3 f0 f1 f2 f3
        clear hx4 ho4 hu4 hA4 hB4 hbw4
        generalize ((((v4.setCell ⟨xb, 0, none⟩ (.slice p1 S.tops.length e1)).setCell ⟨xb, 1, none⟩ (.slice p2 S.thrs.length e2)).setCell ⟨xb, 2, none⟩ (.slice p3 S.sch.length e3)).setCell ⟨xb, 3, none⟩ (.int .i64 S.most)) = v5 at *
        refine hK.out _ _ (HKC.out _ hbw5) (fun hHeld => ?_)
        clear hK K
        try simp only [Act.put, List.setIfInBounds_toArray, List.set_cons_zero, List.set_cons_succ]
        have n0 := (cell_of hB5 0).trans rfl
        have n1 := (cell_of hB5 1).trans rfl
        have n2 := (cell_of hB5 2).trans rfl
        have n3 := (cell_of hB5 3).trans rfl
        have f0 := free_of hB5 0
        have f1 := free_of hB5 1
        have f2 := free_of hB5 2
        have f3 := free_of hB5 3
        refine wpAnyH_ready (rs := [7]) (by kernel_rfl) (by simp) (consH rfl (fun K hK => ?_) AllReadyH.nil)
        go_simp
        have hst := store_scrT hB5 rfl hbw5 hobl (.slice q1 S.tops.length d1) (.slice q2 S.thrs.length d2) (.slice ps S.sch.length cs) (.int .i64 S.most)
        have hg := set4_grown v5 ob (.slice q1 S.tops.length d1) (.slice q2 S.thrs.length d2) (.slice ps S.sch.length cs) (.int .i64 S.most)
        have hx6 := hx5.head kindsO hB5 hg
        have ho6 := own_head ho5 hB5 hg (by decide)
        have hu6 := own_head hu5 hB5 hg (by decide)
        have hA6 := (hg.block xb (Array.getElem?_eq_some_iff.1 hA5).1 (by simpa using hne.symm)).trans hA5
        have hB6 := hst.1
        have hbw6 := hst.2
        clear hst hg n0 n1 n2 n3 f0 f1 f2 f3
        refine hK.out _ _ (HKC.out _ hbw6) (fun hHeld => ?_)
        clear hK K
        try simp only [Act.put, List.setIfInBounds_toArray, List.set_cons_zero, List.set_cons_succ]
        refine wpAnyH_done (by kernel_rfl) ?_ _
        go_wp2_with fail
        go_meet
        exact ⟨xb, ob, p1, e1, p2, e2, p3, e3, XV, q1, d1, q2, d2, rfl, rfl, hA6, hB6, hx6, ho6, hu6, hbw6⟩
  case rest =>
    obtain ⟨xb, ob, p1, e1, p2, e2, p3, e3, XV, q1, d1, q2, d2, rfl, rfl, hx, ho, hrx, hy1, hy2, hbc⟩ := hcut
    generalize wc = w2 at *
    have HZ2 : Hid (rb + 1 ≤ w2.heap.size) := Lib.hid (by have := hbc.size; have := HSZ.out; omega)
    have HU : Hid (∀ W, Below w2.heap.size w2 W → ScrAt W (.slice p1 S.tops.length e1) (.slice p2 S.thrs.length e2) (.slice p3 S.sch.length e3) XV S ∧ ScrAt W (.slice q1 S.tops.length d1) (.slice q2 S.thrs.length d2) (.slice ps S.sch.length cs) V S ∧ Env N W ∧ Below (rb + 1) w0 W) := Lib.hid (fun W hW => by
      have h1 : Below (rb + 1) w0 W := hbc.trans (hW.mono HZ2.out)
      have h2 := (HW.out W h1).1
      exact ⟨(hrx.below hW).read, ⟨.of_own (own_below hy1 hW), .of_own (own_below hy2 hW), h2.sch, h2.each⟩, (HW.out W h1).2.1, h1⟩)
    have HUK : Hid (∀ W, Below w2.heap.size w2 W → (W.cell? ⟨xb, 0, none⟩ = some (.slice p1 S.tops.length e1) ∧ W.cell? ⟨xb, 1, none⟩ = some (.slice p2 S.thrs.length e2) ∧ W.cell? ⟨xb, 2, none⟩ = some (.slice p3 S.sch.length e3) ∧ W.cell? ⟨xb, 3, none⟩ = some (.int .i64 S.most)) ∧
        W.cell? ⟨ob, 0, none⟩ = some (.slice q1 S.tops.length d1) ∧ W.cell? ⟨ob, 1, none⟩ = some (.slice q2 S.thrs.length d2) ∧ W.cell? ⟨ob, 2, none⟩ = some (.slice ps S.sch.length cs) ∧ W.cell? ⟨ob, 3, none⟩ = some (.int .i64 S.most)) := Lib.hid (fun W hW => by
      have h1 := (hW.block xb (Array.getElem?_eq_some_iff.1 hx).1).trans hx
      have h2 := (hW.block ob (Array.getElem?_eq_some_iff.1 ho).1).trans ho
      exact ⟨⟨(cell_of h1 0).trans rfl, (cell_of h1 1).trans rfl, (cell_of h1 2).trans rfl, (cell_of h1 3).trans rfl⟩, (cell_of h2 0).trans rfl, (cell_of h2 1).trans rfl, (cell_of h2 2).trans rfl, (cell_of h2 3).trans rfl⟩)
    have HXN : Hid (∀ i n c, i < S.thrs.length → XV i = .slice none n c → n = 0 ∧ c = 0) := Lib.hid (fun i n c hi e => own_nil (hrx.each i hi) e)
    have HUN : Hid (∀ W W', Below w2.heap.size w2 W → Below W.heap.size W W' → Below w2.heap.size w2 W') := Lib.hid (fun W W' h1 h2 => h1.trans (h2.mono h1.size))
    clear hx ho hrx hy1 hy2 hbc HCP
    have HPX : Hid (∀ W, Below w2.heap.size w2 W → Calls Tryd.prog 17 #[.agg #[.slice p1 S.tops.length e1, .slice p2 S.thrs.length e2, .slice p3 S.sch.length e3, .int .i64 S.most]] W (PrintD S W)) := Lib.hid (fun W hW => print_walk N _ _ _ XV S W (HU.out W hW).2.2.1 (HU.out W hW).1 HZ.out HN.out)
    have HPO : Hid (∀ W, Below w2.heap.size w2 W → Calls Tryd.prog 18 #[.agg #[.slice q1 S.tops.length d1, .slice q2 S.thrs.length d2, .slice ps S.sch.length cs, .int .i64 S.most]] W (PrintD S W)) := Lib.hid (fun W hW => refPrint_walk N _ _ _ V S W (HU.out W hW).2.2.1 (HU.out W hW).2.1 HZ.out HN.out)
    have HCX : Hid (∀ W, Below w2.heap.size w2 W → Calls Tryd.prog 19 #[.agg #[.slice p1 S.tops.length e1, .slice p2 S.thrs.length e2, .slice p3 S.sch.length e3, .int .i64 S.most]] W (CheckD S W)) := Lib.hid (fun W hW => check_walkS N _ _ _ XV S W (HU.out W hW).2.2.1 (HU.out W hW).1 HZ.out HN.out.ops)
    have HCO : Hid (∀ W, Below w2.heap.size w2 W → Calls Tryd.prog 20 #[.agg #[.slice q1 S.tops.length d1, .slice q2 S.thrs.length d2, .slice ps S.sch.length cs, .int .i64 S.most]] W (CheckD S W)) := Lib.hid (fun W hW => refCheck_walk _ _ _ V S W (HU.out W hW).2.1 HZ.out HN.out.ops)
    have HSX : Hid (∀ W, Below w2.heap.size w2 W → Calls Tryd.prog 22 #[.agg #[.slice p1 S.tops.length e1, .slice p2 S.thrs.length e2, .slice p3 S.sch.length e3, .int .i64 S.most]] W (StartD S W)) := Lib.hid (fun W hW => start_walk _ _ _ XV S W (HU.out W hW).1 HZ.out)
    have HSO : Hid (∀ W, Below w2.heap.size w2 W → Calls Tryd.prog 23 #[.agg #[.slice q1 S.tops.length d1, .slice q2 S.thrs.length d2, .slice ps S.sch.length cs, .int .i64 S.most]] W (StartD S W)) := Lib.hid (fun W hW => refStart_walk _ _ _ V S W (HU.out W hW).2.1 HZ.out)
    have HTX : Hid (∀ W, Below w2.heap.size w2 W → Calls Tryd.prog 24 #[.agg #[.slice p1 S.tops.length e1, .slice p2 S.thrs.length e2, .slice p3 S.sch.length e3, .int .i64 S.most]] W (ThreadsD S W)) := Lib.hid (fun W hW => threads_walk _ _ _ XV S W (HU.out W hW).1 HZ.out HXN.out)
    have HOX : Hid (∀ W, Below w2.heap.size w2 W → Calls Tryd.prog 14 #[.agg #[.slice p1 S.tops.length e1, .slice p2 S.thrs.length e2, .slice p3 S.sch.length e3, .int .i64 S.most]] W (OwnD (.slice p3 S.sch.length e3) XV S W)) := Lib.hid (fun W hW => own_walk _ _ _ XV S W (HU.out W hW).1 HZ.out)
    unfold PrintD at HPX HPO
    unfold CheckD at HCX HCO
    generalize (if checkF S = 0 then printF S else []) = tx at *
    generalize checkF S = cr at *
    have hb2 : Below w2.heap.size w2 w2 := Below.refl _ _
    obtain ⟨⟨a0, a1, a2, a3⟩, b0, b1, b2, b3⟩ := HUK.out _ hb2
    go_wp2_with fail
    refine (HPX.out _ hb2).mono ?_
    rintro e w3 ⟨rfl, hb3⟩
    have HB3 := Lib.hid (HUN.out _ _ hb2 hb3)
    clear a0 a1 a2 a3 b0 b1 b2 b3 hb2 hb3
    obtain ⟨⟨a0, a1, a2, a3⟩, b0, b1, b2, b3⟩ := HUK.out _ HB3.out
    go_wp2_with fail
    refine (HPO.out _ HB3.out).mono ?_
    rintro e w4 ⟨rfl, hb4⟩
    have HB4 := Lib.hid (HUN.out _ _ HB3.out hb4)
    clear a0 a1 a2 a3 b0 b1 b2 b3 hb4
    go_upto_region 6 with fail
    refine wp_region_held_drew (S := fun w' => (w'.cell? ⟨xb, 0, none⟩ = some (.slice p1 S.tops.length e1) ∧ w'.cell? ⟨xb, 1, none⟩ = some (.slice p2 S.thrs.length e2) ∧ w'.cell? ⟨xb, 2, none⟩ = some (.slice p3 S.sch.length e3) ∧ w'.cell? ⟨xb, 3, none⟩ = some (.int .i64 S.most)) ∧ w'.cell? ⟨ob, 0, none⟩ = some (.slice q1 S.tops.length d1) ∧ w'.cell? ⟨ob, 1, none⟩ = some (.slice q2 S.thrs.length d2) ∧ w'.cell? ⟨ob, 2, none⟩ = some (.slice ps S.sch.length cs) ∧ w'.cell? ⟨ob, 3, none⟩ = some (.int .i64 S.most)) (by kernel_rfl) (HUK.out _ HB4.out.drew) (fun hHeld => ?_)
    have hbw0 := HB4.out.drew
    clear HB3
    generalize w4.drew = v0 at *
    refine takeH (i := 0) (v := ?v25) rfl (by kernel_rfl) (by kernel_rfl) (by kernel_rfl) (fun _ _ _ h => h) (by rfl) (by assumption) ?hy25 ?rest25
    case hy25 => (intro w hSw; (try dsimp only at hSw); first | (go_simp; done) | (go_simp; with_reducible rfl))
    try simp only [Act.put, List.setIfInBounds_toArray, List.set_cons_zero, List.set_cons_succ]
    refine takeH (i := 1) (v := ?v26) rfl (by kernel_rfl) (by kernel_rfl) (by kernel_rfl) (fun _ _ _ h => h) (by rfl) (by assumption) ?hy26 ?rest26
    case hy26 => (intro w hSw; (try dsimp only at hSw); first | (go_simp; done) | (go_simp; with_reducible rfl))
    try simp only [Act.put, List.setIfInBounds_toArray, List.set_cons_zero, List.set_cons_succ]
    refine takeH (i := 2) (v := ?v27) rfl (by kernel_rfl) (by kernel_rfl) (by kernel_rfl) (fun _ _ _ h => h) (by rfl) (by assumption) ?hy27 ?rest27
    case hy27 => (intro w hSw; (try dsimp only at hSw); first | (go_simp; done) | (go_simp; with_reducible rfl))
    try simp only [Act.put, List.setIfInBounds_toArray, List.set_cons_zero, List.set_cons_succ]
    refine takeH (i := 3) (v := ?v28) rfl (by kernel_rfl) (by kernel_rfl) (by kernel_rfl) (fun _ _ _ h => h) (by rfl) (by assumption) ?hy28 ?rest28
    case hy28 => (intro w hSw; (try dsimp only at hSw); first | (go_simp; done) | (go_simp; with_reducible rfl))
    try simp only [Act.put, List.setIfInBounds_toArray, List.set_cons_zero, List.set_cons_succ]
    refine takeH (i := 4) (v := ?v29) rfl (by kernel_rfl) (by kernel_rfl) (by kernel_rfl) (fun _ _ _ h => h) (by rfl) (by assumption) ?hy29 ?rest29
    case hy29 => (intro w hSw; (try dsimp only at hSw); first | (go_simp; done) | (go_simp; with_reducible rfl))
    try simp only [Act.put, List.setIfInBounds_toArray, List.set_cons_zero, List.set_cons_succ]
    refine takeH (i := 5) (v := ?v30) rfl (by kernel_rfl) (by kernel_rfl) (by kernel_rfl) (fun _ _ _ h => h) (by rfl) (by assumption) ?hy30 ?rest30
    case hy30 => (intro w hSw; (try dsimp only at hSw); first | (go_simp; done) | (go_simp; with_reducible rfl))
    try simp only [Act.put, List.setIfInBounds_toArray, List.set_cons_zero, List.set_cons_succ]
    refine takeH (i := 6) (v := ?v31) rfl (by kernel_rfl) (by kernel_rfl) (by kernel_rfl) (fun _ _ _ h => h) (by rfl) (by assumption) ?hy31 ?rest31
    case hy31 => (intro w hSw; (try dsimp only at hSw); first | (go_simp; done) | (go_simp; with_reducible rfl))
    try simp only [Act.put, List.setIfInBounds_toArray, List.set_cons_zero, List.set_cons_succ]
    refine takeH (i := 7) (v := ?v32) rfl (by kernel_rfl) (by kernel_rfl) (by kernel_rfl) (fun _ _ _ h => h) (by rfl) (by assumption) ?hy32 ?rest32
    case hy32 => (intro w hSw; (try dsimp only at hSw); first | (go_simp; done) | (go_simp; with_reducible rfl))
    try simp only [Act.put, List.setIfInBounds_toArray, List.set_cons_zero, List.set_cons_succ]
    refine takeH (i := 8) (v := ?v33) rfl (by kernel_rfl) (by kernel_rfl) (by kernel_rfl) (fun _ _ _ h => h) (by rfl) (by assumption) ?hy33 ?rest33
    case hy33 => (intro w hSw; (try dsimp only at hSw); first | (go_simp; done) | (go_simp; with_reducible rfl))
    try simp only [Act.put, List.setIfInBounds_toArray, List.set_cons_zero, List.set_cons_succ]
    refine takeH (i := 9) (v := ?v34) rfl (by kernel_rfl) (by kernel_rfl) (by kernel_rfl) (fun _ _ _ h => h) (by rfl) (by assumption) ?hy34 ?rest34
    case hy34 => (intro w hSw; (try dsimp only at hSw); first | (go_simp; done) | (go_simp; with_reducible rfl))
    try simp only [Act.put, List.setIfInBounds_toArray, List.set_cons_zero, List.set_cons_succ]
    refine takeH (i := 11) (v := ?v35) rfl (by kernel_rfl) (by kernel_rfl) (by kernel_rfl) (fun _ _ _ h => h) (by rfl) (by assumption) ?hy35 ?rest35
    case hy35 => (intro w hSw; (try dsimp only at hSw); first | (go_simp; done) | (go_simp; with_reducible rfl))
    try simp only [Act.put, List.setIfInBounds_toArray, List.set_cons_zero, List.set_cons_succ]
    refine wpAnyH_ready (rs := [10]) (by kernel_rfl) (by simp) (consH rfl (fun K hK => ?_) AllReadyH.nil)
    go_simp
    go_at_call 19
    refine (HCX.out v0 hbw0).mono ?_
    rintro e v1 ⟨rfl, hb'⟩
    have hbw1 := HUN.out _ _ hbw0 hb'
    refine hK.out _ _ (HUK.out _ hbw1) (fun hHeld => ?_)
    clear hK K hb' hbw0
    try simp only [Act.put, List.setIfInBounds_toArray, List.set_cons_zero, List.set_cons_succ]
    refine wpAnyH_ready (rs := [12]) (by kernel_rfl) (by simp) (consH rfl (fun K hK => ?_) AllReadyH.nil)
    go_simp
    go_at_call 20
    refine (HCO.out v1 hbw1).mono ?_
    rintro e v2 ⟨rfl, hb'⟩
    have hbw2 := HUN.out _ _ hbw1 hb'
    refine hK.out _ _ (HUK.out _ hbw2) (fun hHeld => ?_)
    clear hK K hb' hbw1
    try simp only [Act.put, List.setIfInBounds_toArray, List.set_cons_zero, List.set_cons_succ]
    refine takeH (i := 13) (v := ?v36) rfl (by kernel_rfl) (by kernel_rfl) (by kernel_rfl) (fun _ _ _ h => h) (by rfl) (by assumption) ?hy36 ?rest36
    case hy36 => (intro w hSw; (try dsimp only at hSw); first | (go_simp; done) | (go_simp; with_reducible rfl))
    try simp only [Act.put, List.setIfInBounds_toArray, List.set_cons_zero, List.set_cons_succ]
    refine takeH (i := 14) (v := ?v37) rfl (by kernel_rfl) (by kernel_rfl) (by kernel_rfl) (fun _ _ _ h => h) (by rfl) (by assumption) ?hy37 ?rest37
    case hy37 => (intro w hSw; (try dsimp only at hSw); first | (go_simp; done) | (go_simp; with_reducible rfl))
    try simp only [Act.put, List.setIfInBounds_toArray, List.set_cons_zero, List.set_cons_succ]
    refine takeH (i := 15) (v := ?v38) rfl (by kernel_rfl) (by kernel_rfl) (by kernel_rfl) (fun _ _ _ h => h) (by rfl) (by assumption) ?hy38 ?rest38
    case hy38 => (intro w hSw; (try dsimp only at hSw); first | (go_simp; done) | (go_simp; with_reducible rfl))
    try simp only [Act.put, List.setIfInBounds_toArray, List.set_cons_zero, List.set_cons_succ]
    refine takeH (i := 16) (v := ?v39) rfl (by kernel_rfl) (by kernel_rfl) (by kernel_rfl) (fun _ _ _ h => h) (by rfl) (by assumption) ?hy39 ?rest39
    case hy39 => (intro w hSw; (try dsimp only at hSw); first | (go_simp; done) | (go_simp; with_reducible rfl))
    try simp only [Act.put, List.setIfInBounds_toArray, List.set_cons_zero, List.set_cons_succ]
    refine takeH (i := 18) (v := ?v40) rfl (by kernel_rfl) (by kernel_rfl) (by kernel_rfl) (fun _ _ _ h => h) (by rfl) (by assumption) ?hy40 ?rest40
    case hy40 => (intro w hSw; (try dsimp only at hSw); first | (go_simp; done) | (go_simp; with_reducible rfl))
    try simp only [Act.put, List.setIfInBounds_toArray, List.set_cons_zero, List.set_cons_succ]
    refine wpAnyH_ready (rs := [17]) (by kernel_rfl) (by simp) (consH rfl (fun K hK => ?_) AllReadyH.nil)
    go_simp
    go_at_call 22
    refine (HSX.out v2 hbw2).mono ?_
    rintro e v3 ⟨s1, s2, rfl, hr1, hb'⟩
    have hbw3 := HUN.out _ _ hbw2 hb'
    refine hK.out _ _ (HUK.out _ hbw3) (fun hHeld => ?_)
    clear hK K hb' hbw2
    try simp only [Act.put, List.setIfInBounds_toArray, List.set_cons_zero, List.set_cons_succ]
    refine wpAnyH_ready (rs := [19]) (by kernel_rfl) (by simp) (consH rfl (fun K hK => ?_) AllReadyH.nil)
    go_simp
    go_at_call 23
    refine (HSO.out v3 hbw3).mono ?_
    rintro e v4 ⟨s3, s4, rfl, hr2, hb'⟩
    have hr1 := own_below hr1 hb'
    have hbw4 := HUN.out _ _ hbw3 hb'
    refine hK.out _ _ (HUK.out _ hbw4) (fun hHeld => ?_)
    clear hK K hb' hbw3
    try simp only [Act.put, List.setIfInBounds_toArray, List.set_cons_zero, List.set_cons_succ]
    have HSN := Lib.hid (sameNums_walk _ _ (startF S) (startF S) v4 (.of_own hr1) (.of_own hr2) (by rw [startF_len]; omega) (by rw [startF_len]; omega))
    rw [decide_eq_true (show startF S = startF S from rfl)] at HSN
    generalize (startF S).length = sn at *
    clear hr1 hr2
    refine wpAnyH_ready (rs := [20]) (by kernel_rfl) (by simp) (consH rfl (fun K hK => ?_) AllReadyH.nil)
    go_simp
    go_at_call 21
    refine HSN.out.mono ?_
    rintro e v5 ⟨rfl, m5, rfl⟩
    have hbw5 := HUN.out _ _ hbw4 (below_drewN (Below.refl _ _) m5)
    refine hK.out _ _ (HUK.out _ hbw5) (fun hHeld => ?_)
    clear hK K hbw4
    try simp only [Act.put, List.setIfInBounds_toArray, List.set_cons_zero, List.set_cons_succ]
    refine takeH (i := 21) (v := ?v41) rfl (by kernel_rfl) (by kernel_rfl) (by kernel_rfl) (fun _ _ _ h => h) (by rfl) (by assumption) ?hy41 ?rest41
    case hy41 => (intro w hSw; (try dsimp only at hSw); first | (go_simp; done) | (go_simp; with_reducible rfl))
    try simp only [Act.put, List.setIfInBounds_toArray, List.set_cons_zero, List.set_cons_succ]
    refine takeH (i := 22) (v := ?v42) rfl (by kernel_rfl) (by kernel_rfl) (by kernel_rfl) (fun _ _ _ h => h) (by rfl) (by assumption) ?hy42 ?rest42
    case hy42 => (intro w hSw; (try dsimp only at hSw); first | (go_simp; done) | (go_simp; with_reducible rfl))
    try simp only [Act.put, List.setIfInBounds_toArray, List.set_cons_zero, List.set_cons_succ]
    refine wpAnyH_done (by kernel_rfl) ?_ _
    clear hHeld
    have HB5 := Lib.hid hbw5
    clear hbw5 HSN hr1
    generalize v4.drewN m5 = w5 at *
    obtain ⟨⟨a0, a1, a2, a3⟩, b0, b1, b2, b3⟩ := HUK.out _ HB5.out
    go_wp2_with fail
    refine (HTX.out _ HB5.out).mono ?_
    rintro e w6 ⟨pl, cl, LV, rfl, hcp, hb6⟩
    have HB6 := Lib.hid (HUN.out _ _ HB5.out hb6)
    have HCS := Lib.hid hcp
    clear a0 a1 a2 a3 b0 b1 b2 b3 hb6 hcp
    have HU9 : Hid (∀ W, Below w2.heap.size w2 W → ((W.cell? ⟨xb, 0, none⟩ = some (.slice p1 S.tops.length e1) ∧ W.cell? ⟨xb, 1, none⟩ = some (.slice p2 S.thrs.length e2) ∧ W.cell? ⟨xb, 2, none⟩ = some (.slice p3 S.sch.length e3) ∧ W.cell? ⟨xb, 3, none⟩ = some (.int .i64 S.most)) ∧
        W.cell? ⟨ob, 0, none⟩ = some (.slice q1 S.tops.length d1) ∧ W.cell? ⟨ob, 1, none⟩ = some (.slice q2 S.thrs.length d2) ∧ W.cell? ⟨ob, 2, none⟩ = some (.slice ps S.sch.length cs) ∧ W.cell? ⟨ob, 3, none⟩ = some (.int .i64 S.most)) ∧ W.cell? ⟨rb, 1, none⟩ = some (.slice ph S.thrs.length ch)) := Lib.hid (fun W hW => ⟨HUK.out W hW, (HKC.out W (HU.out W hW).2.2.2).2.1⟩)
    have hlw : rb + 1 ≤ w6.heap.size := by have := HB6.out.size; have := HZ2.out; omega
    go_upto_region 9 with fail
    refine wp_region_held_drew (S := fun w' => ((w'.cell? ⟨xb, 0, none⟩ = some (.slice p1 S.tops.length e1) ∧ w'.cell? ⟨xb, 1, none⟩ = some (.slice p2 S.thrs.length e2) ∧ w'.cell? ⟨xb, 2, none⟩ = some (.slice p3 S.sch.length e3) ∧ w'.cell? ⟨xb, 3, none⟩ = some (.int .i64 S.most)) ∧ w'.cell? ⟨ob, 0, none⟩ = some (.slice q1 S.tops.length d1) ∧ w'.cell? ⟨ob, 1, none⟩ = some (.slice q2 S.thrs.length d2) ∧ w'.cell? ⟨ob, 2, none⟩ = some (.slice ps S.sch.length cs) ∧ w'.cell? ⟨ob, 3, none⟩ = some (.int .i64 S.most)) ∧ w'.cell? ⟨rb, 1, none⟩ = some (.slice ph S.thrs.length ch)) (by kernel_rfl) (HU9.out _ HB6.out.drew) (fun hHeld => ?_)
    have hbw0 := HB6.out.drew
    have hbs : Below w6.heap.size w6 w6.drew := (Below.refl _ _).drew
    generalize w6.drew = v0 at *
    refine takeH (i := 0) (v := ?v12) rfl (by kernel_rfl) (by kernel_rfl) (by kernel_rfl) (fun _ _ _ h => h) (by rfl) (by assumption) ?hy12 ?rest12
    case hy12 => (intro w hSw; (try dsimp only at hSw); first | (go_simp; done) | (go_simp; with_reducible rfl))
    try simp only [Act.put, List.setIfInBounds_toArray, List.set_cons_zero, List.set_cons_succ]
    refine takeH (i := 1) (v := ?v13) rfl (by kernel_rfl) (by kernel_rfl) (by kernel_rfl) (fun _ _ _ h => h) (by rfl) (by assumption) ?hy13 ?rest13
    case hy13 => (intro w hSw; (try dsimp only at hSw); first | (go_simp; done) | (go_simp; with_reducible rfl))
    try simp only [Act.put, List.setIfInBounds_toArray, List.set_cons_zero, List.set_cons_succ]
    refine takeH (i := 2) (v := ?v14) rfl (by kernel_rfl) (by kernel_rfl) (by kernel_rfl) (fun _ _ _ h => h) (by rfl) (by assumption) ?hy14 ?rest14
    case hy14 => (intro w hSw; (try dsimp only at hSw); first | (go_simp; done) | (go_simp; with_reducible rfl))
    try simp only [Act.put, List.setIfInBounds_toArray, List.set_cons_zero, List.set_cons_succ]
    refine takeH (i := 3) (v := ?v15) rfl (by kernel_rfl) (by kernel_rfl) (by kernel_rfl) (fun _ _ _ h => h) (by rfl) (by assumption) ?hy15 ?rest15
    case hy15 => (intro w hSw; (try dsimp only at hSw); first | (go_simp; done) | (go_simp; with_reducible rfl))
    try simp only [Act.put, List.setIfInBounds_toArray, List.set_cons_zero, List.set_cons_succ]
    refine takeH (i := 4) (v := ?v16) rfl (by kernel_rfl) (by kernel_rfl) (by kernel_rfl) (fun _ _ _ h => h) (by rfl) (by assumption) ?hy16 ?rest16
    case hy16 => (intro w hSw; (try dsimp only at hSw); first | (go_simp; done) | (go_simp; with_reducible rfl))
    try simp only [Act.put, List.setIfInBounds_toArray, List.set_cons_zero, List.set_cons_succ]
    refine takeH (i := 5) (v := ?v17) rfl (by kernel_rfl) (by kernel_rfl) (by kernel_rfl) (fun _ _ _ h => h) (by rfl) (by assumption) ?hy17 ?rest17
    case hy17 => (intro w hSw; (try dsimp only at hSw); first | (go_simp; done) | (go_simp; with_reducible rfl))
    try simp only [Act.put, List.setIfInBounds_toArray, List.set_cons_zero, List.set_cons_succ]
    refine takeH (i := 6) (v := ?v18) rfl (by kernel_rfl) (by kernel_rfl) (by kernel_rfl) (fun _ _ _ h => h) (by rfl) (by assumption) ?hy18 ?rest18
    case hy18 => (intro w hSw; (try dsimp only at hSw); first | (go_simp; done) | (go_simp; with_reducible rfl))
    try simp only [Act.put, List.setIfInBounds_toArray, List.set_cons_zero, List.set_cons_succ]
    refine takeH (i := 7) (v := ?v19) rfl (by kernel_rfl) (by kernel_rfl) (by kernel_rfl) (fun _ _ _ h => h) (by rfl) (by assumption) ?hy19 ?rest19
    case hy19 => (intro w hSw; (try dsimp only at hSw); first | (go_simp; done) | (go_simp; with_reducible rfl))
    try simp only [Act.put, List.setIfInBounds_toArray, List.set_cons_zero, List.set_cons_succ]
    refine takeH (i := 9) (v := ?v20) rfl (by kernel_rfl) (by kernel_rfl) (by kernel_rfl) (fun _ _ _ h => h) (by rfl) (by assumption) ?hy20 ?rest20
    case hy20 => (intro w hSw; (try dsimp only at hSw); first | (go_simp; done) | (go_simp; with_reducible rfl))
    try simp only [Act.put, List.setIfInBounds_toArray, List.set_cons_zero, List.set_cons_succ]
    refine wpAnyH_ready (rs := [8]) (by kernel_rfl) (by simp) (consH rfl (fun K hK => ?_) AllReadyH.nil)
    go_simp
    go_at_call 14
    refine (HOX.out v0 hbw0).mono ?_
    rintro e v1 ⟨yt, yh, rfl, hso, hb'⟩
    have HRS := Lib.hid (rsame_walk _ _ _ _ _ _ XV V S S v1 hso (HU.out _ (HUN.out _ _ hbw0 hb')).2.1 HZ.out HZ.out)
    obtain ⟨y1, z1, rfl, _, _⟩ := hso.tops
    obtain ⟨y2, z2, rfl, _, _⟩ := hso.thrs
    rw [decide_eq_true (show S = S from rfl)] at HRS
    have hbw1 := HUN.out _ _ hbw0 hb'
    have hbs := hbs.trans (hb'.mono hbs.size)
    refine hK.out _ _ (HU9.out _ hbw1) (fun hHeld => ?_)
    clear hK K hb' hbw0 hso
    try simp only [Act.put, List.setIfInBounds_toArray, List.set_cons_zero, List.set_cons_succ]
    refine wpAnyH_ready (rs := [10]) (by kernel_rfl) (by simp) (consH rfl (fun K hK => ?_) AllReadyH.nil)
    go_simp
    go_at_call 13
    refine HRS.out.mono ?_
    rintro e v2 ⟨rfl, hb'⟩
    have hbw2 := HUN.out _ _ hbw1 hb'
    have hbs := hbs.trans (hb'.mono hbs.size)
    refine hK.out _ _ (HU9.out _ hbw2) (fun hHeld => ?_)
    clear hK K hb' hbw1 HRS
    try simp only [Act.put, List.setIfInBounds_toArray, List.set_cons_zero, List.set_cons_succ]
    refine takeH (i := 11) (v := ?v21) rfl (by kernel_rfl) (by kernel_rfl) (by kernel_rfl) (fun _ _ _ h => h) (by rfl) (by assumption) ?hy21 ?rest21
    case hy21 => (intro w hSw; (try dsimp only at hSw); first | (go_simp; done) | (go_simp; with_reducible rfl))
    try simp only [Act.put, List.setIfInBounds_toArray, List.set_cons_zero, List.set_cons_succ]
    refine takeH (i := 12) (v := ?v22) rfl (by kernel_rfl) (by kernel_rfl) (by kernel_rfl) (fun _ _ _ h => h) (by rfl) (by assumption) ?hy22 ?rest22
    case hy22 => (intro w hSw; (try dsimp only at hSw); first | (go_simp; done) | (go_simp; with_reducible rfl))
    try simp only [Act.put, List.setIfInBounds_toArray, List.set_cons_zero, List.set_cons_succ]
    refine wpAnyH_done (by kernel_rfl) ?_ _
    clear hHeld
    have HB8 := Lib.hid hbw2
    have HB68 := Lib.hid hbs
    clear hbw2 hbs
    generalize v2 = w8 at *
    go_wp2_with fail
    go_loopw [67] (fun iv wr => ∃ i : Nat, i ≤ S.thrs.length ∧ iv = .int .i64 i ∧ Below w8.heap.size w8 wr) (fun iv _ => S.thrs.length - (intOf iv).toNat)
    case atStart => exact ⟨0, Nat.zero_le _, rfl, Below.refl _ _⟩
    case round =>
      obtain ⟨i, hi, rfl, hbr⟩ := hrel
      have HBR := Lib.hid hbr
      have HB2r : Hid (Below w2.heap.size w2 wr) := Lib.hid (HB8.out.trans (hbr.mono HB8.out.size))
      have hcp := HCS.out.below (HB68.out.trans (hbr.mono HB68.out.size))
      have hlow := (HU.out wr HB2r.out).2.2.2
      have hAr := (HW.out wr hlow).1
      clear hbr
      by_cases hin : i < S.thrs.length
      · obtain ⟨g, o, rfl, cl1⟩ := vcell_at hcp hin
        have hle := hcp.each i hin
        obtain ⟨pa, ca, hva⟩ := own_slice hle
        obtain ⟨r1, c1, e1, _, hA1⟩ := hAr.thrs
        injection e1 with e11 e12 e13
        subst e11
        obtain ⟨ga, oa, rfl, hA2⟩ := hA1.resolve_left (by intro e; have := congrArg List.length e; rw [hcells_length] at this; simp at this; omega)
        obtain ⟨cn, cv2⟩ := hcell_name hA2 hin
        have hve := hAr.each i hin
        obtain ⟨pb, cb, hvb, _, _⟩ := hve
        have HSO2 : Hid (∀ W, Below wr.heap.size wr W → Calls Tryd.prog 25 #[LV i, V i] W fun e w' => e = .returned (.bool true) ∧ ∃ n, w' = W.drewN n) := Lib.hid (fun W hW => by
          have hx := sameOps_walk (LV i) (V i) _ _ W ((RowAt.of_own hle).below hW) ((hAr.each i hin).below hW) (HZ.out.ops _ (getD_mem hin)) (HZ.out.ops _ (getD_mem hin))
          rw [decide_eq_true rfl] at hx
          exact hx)
        rw [hva] at cl1 HSO2
        rw [hvb] at cv2 HSO2
        have HKR : Hid (∀ W, Below wr.heap.size wr W → W.cell? ⟨g, o + i, none⟩ = some (.slice pa (S.thrs.getD i default).ops.length ca) ∧ W.cell? ⟨rb, 1, none⟩ = some (.slice (some ⟨ga, oa, none⟩) S.thrs.length ch) ∧ W.cell? ⟨ga, oa + i * 2 + 1, none⟩ = some (.slice pb (S.thrs.getD i default).ops.length cb)) := Lib.hid (fun W hW =>
          ⟨(hW.cell (World.block_lt_of_cell? wr _ cl1)).trans cl1, (HKC.out W (hlow.trans (hW.mono (by have := hlow.size; have := HSZ.out; omega)))).2.1, (hW.cell (World.block_lt_of_cell? wr _ cv2)).trans cv2⟩)
        clear hle hva hAr hA1 hA2 e12 e13 hvb cn cl1 cv2 hcp hlow
        generalize (S.thrs.getD i default).ops.length = no at *
        have hl4 : S.thrs.length ≤ 4000000 := HZ.out.thrs
        generalize hln : S.thrs.length = ln at *
        clear hln
        go_upto_region 14 with fail
        refine wp_region_held_drew (S := fun w' => w'.cell? ⟨g, o + i, none⟩ = some (.slice pa no ca) ∧ w'.cell? ⟨rb, 1, none⟩ = some (.slice (some ⟨ga, oa, none⟩) ln ch) ∧ w'.cell? ⟨ga, oa + i * 2 + 1, none⟩ = some (.slice pb no cb)) (by kernel_rfl) (HKR.out _ (Below.refl _ _).drew) (fun hHeld => ?_)
        have hbs : Below wr.heap.size wr wr.drew := (Below.refl _ _).drew
        generalize wr.drew = v0 at *
        refine takeH (i := 0) (v := ?v1) rfl (by kernel_rfl) (by kernel_rfl) (by kernel_rfl) (fun _ _ _ h => h) (by rfl) (by assumption) ?hy1 ?rest1
        case hy1 => (intro w hSw; (try dsimp only at hSw); first | (go_simp; done) | (go_simp; with_reducible rfl))
        try simp only [Act.put, List.setIfInBounds_toArray, List.set_cons_zero, List.set_cons_succ]
        refine takeH (i := 1) (v := ?v2) rfl (by kernel_rfl) (by kernel_rfl) (by kernel_rfl) (fun _ _ _ h => h) (by rfl) (by assumption) ?hy2 ?rest2
        case hy2 => (intro w hSw; (try dsimp only at hSw); first | (go_simp; done) | (go_simp; with_reducible rfl))
        try simp only [Act.put, List.setIfInBounds_toArray, List.set_cons_zero, List.set_cons_succ]
        refine takeH (i := 2) (v := ?v3) rfl (by kernel_rfl) (by kernel_rfl) (by kernel_rfl) (fun _ _ _ h => h) (by rfl) (by assumption) ?hy3 ?rest3
        case hy3 => (intro w hSw; (try dsimp only at hSw); first | (go_simp; done) | (go_simp; with_reducible rfl))
        try simp only [Act.put, List.setIfInBounds_toArray, List.set_cons_zero, List.set_cons_succ]
        refine takeH (i := 3) (v := ?v4) rfl (by kernel_rfl) (by kernel_rfl) (by kernel_rfl) (fun _ _ _ h => h) (by rfl) (by assumption) ?hy4 ?rest4
        case hy4 => (intro w hSw; (try dsimp only at hSw); first | (go_simp; done) | (go_simp; with_reducible rfl))
        try simp only [Act.put, List.setIfInBounds_toArray, List.set_cons_zero, List.set_cons_succ]
        refine takeH (i := 4) (v := ?v5) rfl (by kernel_rfl) (by kernel_rfl) (by kernel_rfl) (fun _ _ _ h => h) (by rfl) (by assumption) ?hy5 ?rest5
        case hy5 => (intro w hSw; (try dsimp only at hSw); first | (go_simp; done) | (go_simp; with_reducible rfl))
        try simp only [Act.put, List.setIfInBounds_toArray, List.set_cons_zero, List.set_cons_succ]
        refine takeH (i := 5) (v := ?v6) rfl (by kernel_rfl) (by kernel_rfl) (by kernel_rfl) (fun _ _ _ h => h) (by rfl) (by assumption) ?hy6 ?rest6
        case hy6 => (intro w hSw; (try dsimp only at hSw); first | (go_simp; done) | (go_simp; with_reducible rfl))
        try simp only [Act.put, List.setIfInBounds_toArray, List.set_cons_zero, List.set_cons_succ]
        refine takeH (i := 6) (v := ?v7) rfl (by kernel_rfl) (by kernel_rfl) (by kernel_rfl) (fun _ _ _ h => h) (by rfl) (by assumption) ?hy7 ?rest7
        case hy7 => (intro w hSw; (try dsimp only at hSw); first | (go_simp; done) | (go_simp; with_reducible rfl))
        try simp only [Act.put, List.setIfInBounds_toArray, List.set_cons_zero, List.set_cons_succ]
        refine takeH (i := 7) (v := ?v8) rfl (by kernel_rfl) (by kernel_rfl) (by kernel_rfl) (fun _ _ _ h => h) (by rfl) (by assumption) ?hy8 ?rest8
        case hy8 => (intro w hSw; (try dsimp only at hSw); first | (go_simp; done) | (go_simp; with_reducible rfl))
        try simp only [Act.put, List.setIfInBounds_toArray, List.set_cons_zero, List.set_cons_succ]
        refine takeH (i := 8) (v := ?v9) rfl (by kernel_rfl) (by kernel_rfl) (by kernel_rfl) (fun _ _ _ h => h) (by rfl) (by assumption) ?hy9 ?rest9
        case hy9 => (intro w hSw; (try dsimp only at hSw); first | (go_simp; done) | (go_simp; with_reducible rfl))
        try simp only [Act.put, List.setIfInBounds_toArray, List.set_cons_zero, List.set_cons_succ]
        refine takeH (i := 9) (v := ?v10) rfl (by kernel_rfl) (by kernel_rfl) (by kernel_rfl) (fun _ _ _ h => h) (by rfl) (by assumption) ?hy10 ?rest10
        case hy10 => (intro w hSw; (try dsimp only at hSw); first | (go_simp; done) | (go_simp; with_reducible rfl))
        try simp only [Act.put, List.setIfInBounds_toArray, List.set_cons_zero, List.set_cons_succ]
        refine wpAnyH_ready (rs := [10]) (by kernel_rfl) (by simp) (consH rfl (fun K hK => ?_) AllReadyH.nil)
        go_simp
        go_at_call 25
        refine (HSO2.out v0 hbs).mono ?_
        rintro e v1 ⟨rfl, m, rfl⟩
        have hbs := below_drewN hbs m
        refine hK.out _ _ (HKR.out _ hbs) (fun hHeld => ?_)
        clear hK K
        try simp only [Act.put, List.setIfInBounds_toArray, List.set_cons_zero, List.set_cons_succ]
        refine takeH (i := 11) (v := ?v11) rfl (by kernel_rfl) (by kernel_rfl) (by kernel_rfl) (fun _ _ _ h => h) (by rfl) (by assumption) ?hy11 ?rest11
        case hy11 => (intro w hSw; (try dsimp only at hSw); first | (go_simp; done) | (go_simp; with_reducible rfl))
        try simp only [Act.put, List.setIfInBounds_toArray, List.set_cons_zero, List.set_cons_succ]
        refine wpAnyH_done (by kernel_rfl) ?_ _
        clear hHeld
        go_wp2_with fail
        go_roundw
        case rel => exact ⟨i + 1, by omega, by go_num, HBR.out.trans (hbs.mono HBR.out.size)⟩
        case measure => simp [intOf]; omega
      · have hie : i = S.thrs.length := by omega
        subst hie
        clear hAr hcp
        go_wp2_with fail
        go_ret
        exact ⟨rfl, by rw [HRBE.out]; exact (HW.out _ (HU.out wr HB2r.out).2.2.2).2.2.2⟩
end Go.Proofs.YtdmhlhoimaeacaaDoor
